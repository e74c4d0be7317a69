/- Lemmas of the proof; no condition. -/
import Derived.Test.YtpofmhikcgkdhaaGreatLLogic
set_option linter.all false
open Go Go.AL
namespace Go.AL
def lh (w:List UInt8):Prop:=w.all bG=true∧w≠[]∧bF (w.headD 0)=true
def nmL (l:List Tok):Prop:=∀ x∈l,x.1=2→lh x.2.1
inductive LfOk:Nd→Prop
 |num {v:Nat}:v<2^128→LfOk ⟨1,0,0,[],[],v⟩
 |tru {b:Bool}:LfOk ⟨2,0,0,[],[],if b then 1 else 0⟩
 |var {x:List UInt8}:lh x→x≠ey→x≠cP→LfOk ⟨3,0,0,x,[],0⟩
 |att {x y:List UInt8}:lh x→x≠ey→x≠cP→lh y→LfOk ⟨3,0,0,x,y,0⟩
inductive Sb (t:List Nd):Nat→Nat→Prop
 |leaf {r:Nat} {n:Nd}:t[r]?=some n→LfOk n→Sb t r r
 |un {s a op:Nat}:Sb t s a→t[a+1]?=some (nd2 op a 0)→(op=4∨op=5)→Sb t s (a+1)
 |bin {s a b op:Nat}:Sb t s a→Sb t (a+1) b→t[b+1]?=some (nd2 op a b)→(6≤op∧op≤16)→Sb t s (b+1)
theorem Sb.ext {t t':List Nd} {s r:Nat} (h:Sb t s r) (hp:t <+: t'):Sb t' s r:=by
 induction h with
 |leaf h1 h2=>exact .leaf (kb hp h1) h2
 |un _ h1 h2 ih=>exact .un ih (kb hp h1) h2
 |bin _ _ h1 h2 ih1 ih2=>exact .bin ih1 ih2 (kb hp h1) h2
theorem Sb.le {t:List Nd} {s r:Nat} (h:Sb t s r):s≤r∧r<t.length:=by
 have lt:∀ {i:Nat} {n:Nd},t[i]?=some n→i<t.length:=by
  intro i n hi
  rcases Nat.lt_or_ge i t.length with h|h
  ·exact h
  ·rw [gNq h] at hi;cases hi
 induction h with
 |leaf h1 _=>exact ⟨nrq _,lt h1⟩
 |un _ h1 _ ih=>exact ⟨by omega,lt h1⟩
 |bin _ _ h1 _ ih1 ih2=>exact ⟨by omega,lt h1⟩
def fP (rl:Rl) (t:List Nd) (s:Nat):Prop:=match rl with
 |.orL a|.andL a|.sumL a=>Sb t s a∧a+1=t.length
 |_=>s=t.length
def fV (t:List Nd) (s a:Nat) (t':List Nd):Prop:=t <+: t'∧Sb t' s a∧a+1=t'.length
theorem iL {t t1 t2:List Nd} {s a b op:Nat} (h1:fV t s a t1) (h2:fV t1 t1.length b t2) (ho:6≤op∧op≤16):fV t s t2.length (t2++[nd2 op a b]):=by
 obtain ⟨p1,s1,e1⟩:=h1
 obtain ⟨p2,s2,e2⟩:=h2
 refine ⟨(p1.trans p2).trans iD,?_,by simp⟩
 rw [← e2]
 refine .bin ((s1.ext p2).ext iD) ?_ (by rw [e2];exact pd) ho
 rw [e1];exact s2.ext iD
theorem uk {t t1:List Nd} {s a op:Nat} (h1:fV t s a t1) (ho:op=4∨op=5):fV t s t1.length (t1++[nd2 op a 0]):=by
 obtain ⟨p1,s1,e1⟩:=h1
 refine ⟨p1.trans iD,?_,by simp⟩
 rw [← e1]
 exact .un (s1.ext iD) (by rw [e1];exact pd) ho
theorem eU {t t1 t2:List Nd} {s s1 a b:Nat} (h1:fV t s1 a t1) (h2:fV t1 s b t2):fV t s b t2:=⟨h1.1.trans h2.1,h2.2.1,h2.2.2⟩
theorem BK {l:List Tok} (hl:nmL l) {p:Nat} {t:List Nd} {a q:Nat} {t':List Nd} (h:bC l p t=.ok a q t'):fV t t.length a t':=by
 have key:∀ n:Nd,LfOk n→fV t t.length t.length (t++[n]):=fun n hn=>⟨iD,.leaf pd hn,by simp⟩
 unfold bC at h
 split at h
 ·cases h
 ·rename_i k x y hx
  split at h
  ·cases h;exact key _ (.num wz)
  ·split at h
   ·rename_i hk
    have hn:lh x:=hl _ (List.mem_of_getElem? hx) hk
    split at h
    ·cases h;exact key _ (.tru (b:=true))
    ·rename_i h1
     split at h
     ·cases h;exact key _ (.tru (b:=false))
     ·rename_i h2
      split at h
      ·split at h
       ·cases h
       ·rename_i k2 y2 z2 hy
        split at h
        ·rename_i hk2;cases h;exact key _ (.att hn h1 h2 (hl _ (List.mem_of_getElem? hy) hk2))
        ·cases h
      ·cases h;exact key _ (.var hn h1 h2)
   ·cases h
theorem BF {l:List Tok} (hl:nmL l) {rec:Rl→Nat→List Nd→Option PR} (h:∀ rl p t a q t',rec rl p t=some (.ok a q t')→∀ s,fP rl t s→fV t s a t') :
 ∀ {rl p t a q t'},aZ l rec rl p t=some (.ok a q t')→∀ s,fP rl t s→fV t s a t':=by
 intro rl p t a q t' hr s hs
 cases rl<;>simp only [aZ] at hr<;>simp only [fP] at hs
 case imp =>
  subst hs
  obtain ⟨a1,p1,t1,e1,e2⟩:=bx hr
  have g1:=h _ _ _ _ _ _ e1 _ (rfl:fP .or t t.length)
  split at e2
  ·obtain ⟨a2,p2,t2,e3,e4⟩:=bx e2
   cases e4
   exact iL g1 (h _ _ _ _ _ _ e3 _ (rfl:fP .imp t1 t1.length)) (by decide)
  ·cases e2;exact g1
 case cmp =>
  subst hs
  obtain ⟨a1,p1,t1,e1,e2⟩:=bx hr
  have g1:=h _ _ _ _ _ _ e1 _ (rfl:fP .sum t t.length)
  split at e2
  ·rename_i op hop
   obtain ⟨a2,p2,t2,e3,e4⟩:=bx e2
   cases e4
   obtain ⟨_,x,hx⟩:=dT hop
   refine iL g1 (h _ _ _ _ _ _ e3 _ (rfl:fP .sum t1 t1.length)) ?_
   simp only [opsC,List.mem_cons,Prod.mk.injEq,List.not_mem_nil,or_false] at hx;omega
  ·cases e2;exact g1
 case atom =>
  subst hs
  split at hr
  ·obtain ⟨a1,p1,t1,e1,e2⟩:=bx hr
   split at e2
   ·cases e2;exact h _ _ _ _ _ _ e1 _ (rfl:fP .imp t t.length)
   ·cases e2
  ·exact BK hl (Option.some.inj hr)
 case not =>
  subst hs
  split at hr
  ·obtain ⟨a1,p1,t1,e1,e2⟩:=bx hr
   cases e2
   exact uk (h _ _ _ _ _ _ e1 _ (rfl:fP .not t t.length)) (.inr rfl)
  ·exact h _ _ _ _ _ _ hr _ (rfl:fP .cmp t t.length)
 case un =>
  subst hs
  split at hr
  ·obtain ⟨a1,p1,t1,e1,e2⟩:=bx hr
   cases e2
   exact uk (h _ _ _ _ _ _ e1 _ (rfl:fP .un t t.length)) (.inl rfl)
  ·exact h _ _ _ _ _ _ hr _ (rfl:fP .atom t t.length)
 case orL a0 =>
  split at hr
  ·obtain ⟨a1,p1,t1,e1,e2⟩:=bx hr
   have g0:fV t s a0 t:=⟨List.prefix_refl _,hs.1,hs.2⟩
   have g2:=iL (op:=15) g0 (h _ _ _ _ _ _ e1 _ (rfl:fP .and t t.length)) (by decide)
   exact eU g2 (h _ _ _ _ _ _ e2 s (⟨g2.2.1,g2.2.2⟩:fP (.orL t1.length) _ s))
  ·cases hr;exact ⟨List.prefix_refl _,hs.1,hs.2⟩
 case andL a0 =>
  split at hr
  ·obtain ⟨a1,p1,t1,e1,e2⟩:=bx hr
   have g0:fV t s a0 t:=⟨List.prefix_refl _,hs.1,hs.2⟩
   have g2:=iL (op:=14) g0 (h _ _ _ _ _ _ e1 _ (rfl:fP .not t t.length)) (by decide)
   exact eU g2 (h _ _ _ _ _ _ e2 s (⟨g2.2.1,g2.2.2⟩:fP (.andL t1.length) _ s))
  ·cases hr;exact ⟨List.prefix_refl _,hs.1,hs.2⟩
 case sumL a0 =>
  split at hr
  ·rename_i op hop
   obtain ⟨a1,p1,t1,e1,e2⟩:=bx hr
   obtain ⟨_,x,hx⟩:=dT hop
   have ho:6≤op∧op≤16:=by simp only [opsS,List.mem_cons,Prod.mk.injEq,List.not_mem_nil,or_false] at hx;omega
   have g0:fV t s a0 t:=⟨List.prefix_refl _,hs.1,hs.2⟩
   have g2:=iL (op:=op) g0 (h _ _ _ _ _ _ e1 _ (rfl:fP .un t t.length)) ho
   exact eU g2 (h _ _ _ _ _ _ e2 s (⟨g2.2.1,g2.2.2⟩:fP (.sumL t1.length) _ s))
  ·cases hr;exact ⟨List.prefix_refl _,hs.1,hs.2⟩
 case or =>
  subst hs
  obtain ⟨a1,p1,t1,e1,e2⟩:=bx hr
  have g1:=h _ _ _ _ _ _ e1 _ (rfl:fP .and t t.length)
  exact eU g1 (h _ _ _ _ _ _ e2 _ (⟨g1.2.1,g1.2.2⟩:fP (.orL a1) t1 t.length))
 case and =>
  subst hs
  obtain ⟨a1,p1,t1,e1,e2⟩:=bx hr
  have g1:=h _ _ _ _ _ _ e1 _ (rfl:fP .not t t.length)
  exact eU g1 (h _ _ _ _ _ _ e2 _ (⟨g1.2.1,g1.2.2⟩:fP (.andL a1) t1 t.length))
 case sum =>
  subst hs
  obtain ⟨a1,p1,t1,e1,e2⟩:=bx hr
  have g1:=h _ _ _ _ _ _ e1 _ (rfl:fP .un t t.length)
  exact eU g1 (h _ _ _ _ _ _ e2 _ (⟨g1.2.1,g1.2.2⟩:fP (.sumL a1) t1 t.length))
theorem wI {l:List Tok} (hl:nmL l):∀ (f:Nat) {rl p t a q t'},run l f rl p t=some (.ok a q t')→∀ s,fP rl t s→fV t s a t'
 |0,_,_,_,_,_,_,h=>by cases h
 |f+1,_,_,_,_,_,_,h=>BF hl (fun _ _ _ _ _ _=>wI hl f) h
def Lx (rl:Rl) (stop:List (List UInt8)) (n:List T2) (t u:List Nd) (a:Nat):Prop :=
 ∀ (l:List Tok) (p:Nat),At l p n→(∀ s∈stop,isS l (p+n.length) s=false)→Rn l rl p t (.ok a (p+n.length) u)
section
variable {n n1 n2:List T2} {t u w:List Nd} {a b:Nat}
theorem zx {n1 n2:List T2} {x:T2} {p:Nat}:p+n1.length+1+n2.length=p+(n1++x::n2).length:=by simp only [List.length_cons,lAq];omega
theorem DN {n:List T2} {x:T2} {p:Nat}:p+1+n.length=p+(x::n).length:=by simp only [List.length_cons];omega
theorem Cy (h:Lx .imp fO n t u a):Lx .atom s0 ((3,[40])::(n++[(3,[41])])) t u a:=by
 intro l p ha _
 have hn:=ha.tail.left
 have hr:=ha.tail.right
 have h1:=h l (p+1) hn fun s hs=>iv hr (by rintro rfl;revert hs;decide)
 have e1:p+1+n.length+1=p+((3,[40])::(n++[(3,[41])]):List T2).length:=by simp only [List.length_cons,lAq,List.length_nil];omega
 rw [← e1]
 exact DZ (gZ ha) h1 (gZ hr)
theorem BX (h:Lx .atom s0 n t u a) (h0:n≠[]) (hd:nC (3,[45]) n):Lx .un s0 n t u a:=fun l p ha hs=>Dz (zy h0 hd ha) (h l p ha hs)
theorem CB (h:Lx .un s0 n t u a):Lx .un s0 ((3,[45])::n) t (u++[nd2 4 a 0]) u.length:=by
 intro l p ha hs
 rw [← DN] at hs ⊢
 exact DE (gZ ha) (h l (p+1) ha.tail hs)
theorem noS {l:List Tok} {p:Nat} (hs:∀ s∈rR,isS l p s=false):cv l p opsS=none:=pX (by
 intro x hx
 simp only [opsS,List.mem_cons,List.not_mem_nil,or_false] at hx
 rcases hx with rfl|rfl<;>exact hs _ (by decide))
theorem yZ (h:Lx .un s0 n t u a):Lx .sum rR n t u a:=fun l p ha hs =>
 B1 (h l p ha fun s h=>hs s (List.mem_append_left _ h)) (w9 (noS hs))
theorem wS {op:Nat} (ho:op=6∨op=7) (h1:Lx .un s0 n1 t u a) (h2:Lx .un s0 n2 u w b):Lx .sum rR (n1++(3,if op=6 then [43] else [45])::n2) t (w++[nd2 op a b]) w.length:=by
 intro l p ha hs
 have hc:=ha.right
 have k1:=h1 l p ha.left fun s hs=>by rw [List.mem_singleton.1 hs];exact iv hc (by split<;>decide)
 rw [← zx] at hs ⊢
 exact B1 k1 (BE (Bl ho hc) (h2 l _ hc.tail fun s h=>hs s (List.mem_append_left _ h)) (w9 (noS hs)))
theorem sP (h:Lx .sum rR n t u a):Lx .cmp mJ n t u a:=fun l p ha hs =>
 C8 (h l p ha fun s h=>hs s (List.mem_append_left _ h)) (noC hs)
theorem AX {c:Nat} (hc1:8≤c) (hc2:c≤13) (h1:Lx .sum rR n1 t u a) (h2:Lx .sum rR n2 u w b):Lx .cmp mJ (n1++(3,cOp c)::n2) t (w++[nd2 c a b]) w.length:=by
 intro l p ha hs
 have hc:=ha.right
 obtain ⟨g1,g2⟩:=Bm hc1 hc2 hc
 rw [← zx] at hs ⊢
 exact Ch (h1 l p ha.left g2) g1 (h2 l _ hc.tail fun s h=>hs s (List.mem_append_left _ h))
theorem Ag (h:Lx .cmp mJ n t u a) (h0:n≠[]) (hd:nC (3,[33]) n):Lx .not mJ n t u a:=fun l p ha hs=>Dg (zy h0 hd ha) (h l p ha hs)
theorem Bt (h:Lx .not mJ n t u a):Lx .not mJ ((3,[33])::n) t (u++[nd2 5 a 0]) u.length:=by
 intro l p ha hs
 rw [← DN] at hs ⊢
 exact CX (gZ ha) (h l (p+1) ha.tail hs)
theorem uZ (h:Lx .not mJ n t u a):Lx .and uO n t u a:=fun l p ha hs =>
 BS (h l p ha fun s h=>hs s (List.mem_append_left _ h)) (wM (hs _ (by decide)))
theorem Bi (h1:Lx .not mJ n1 t u a) (h2:Lx .not mJ n2 u w b):Lx .and uO (n1++(3,[38,38])::n2) t (w++[nd2 14 a b]) w.length:=by
 intro l p ha hs
 have hc:=ha.right
 have k1:=h1 l p ha.left fun s hs=>iv hc (by rintro rfl;revert hs;decide)
 rw [← zx] at hs ⊢
 exact BS k1 (AB (gZ hc) (h2 l _ hc.tail fun s h=>hs s (List.mem_append_left _ h)) (wM (hs _ (by decide))))
theorem wj (h:Lx .and uO n t u a):Lx .or sOr n t u a:=fun l p ha hs =>
 DY (h l p ha fun s h=>hs s (List.mem_append_left _ h)) (z7 (hs _ (by decide)))
theorem Co (h1:Lx .and uO n1 t u a) (h2:Lx .and uO n2 u w b):Lx .or sOr (n1++(3,[124,124])::n2) t (w++[nd2 15 a b]) w.length:=by
 intro l p ha hs
 have hc:=ha.right
 have k1:=h1 l p ha.left fun s hs=>iv hc (by rintro rfl;revert hs;decide)
 rw [← zx] at hs ⊢
 exact DY k1 (CE (gZ hc) (h2 l _ hc.tail fun s h=>hs s (List.mem_append_left _ h)) (z7 (hs _ (by decide))))
theorem oX (h:Lx .or sOr n t u a):Lx .imp fO n t u a:=fun l p ha hs =>
 Cr (h l p ha fun s h=>hs s (List.mem_append_left _ h)) (hs _ (by decide))
theorem BH (h1:Lx .or sOr n1 t u a) (h2:Lx .imp fO n2 u w b):Lx .imp fO (n1++(3,[45,62])::n2) t (w++[nd2 16 a b]) w.length:=by
 intro l p ha hs
 have hc:=ha.right
 have k1:=h1 l p ha.left fun s hs=>iv hc (by rintro rfl;revert hs;decide)
 rw [← zx] at hs ⊢
 exact Cc k1 (gZ hc) (h2 l _ hc.tail hs)
theorem rH (h:Lx .cmp mJ n t u a) (h0:n≠[]) (hd:nC (3,[33]) n):Lx .imp fO n t u a:=oX (wj (uZ (Ag h h0 hd)))
theorem BR (h:Lx .un s0 n t u a) (h0:n≠[]) (hd:nC (3,[33]) n):Lx .imp fO n t u a:=rH (sP (yZ h)) h0 hd
theorem dO {x y:T2} {r:List T2} (h:y≠x):nC x (y::r):=fun z hz=>by cases hz;exact h
theorem qh (h:Lx .imp fO n t u a):Lx .un s0 ((3,[40])::(n++[(3,[41])])) t u a:=BX (Cy h) (by simp) (dO (by decide))
theorem uL (h:Lx .imp fO n t u a):Lx .sum rR ((3,[40])::(n++[(3,[41])])) t u a:=yZ (qh h)
theorem rk (h:Lx .imp fO n t u a):Lx .not mJ ((3,[40])::(n++[(3,[41])])) t u a:=Ag (sP (uL h)) (by simp) (dO (by decide))
theorem v3 (h:Lx .imp fO n t u a):Lx .and uO ((3,[40])::(n++[(3,[41])])) t u a:=uZ (rk h)
theorem BZ (h:Lx .imp fO n t u a):Lx .or sOr ((3,[40])::(n++[(3,[41])])) t u a:=wj (v3 h)
theorem Cm (h:Lx .imp fO n t u a):Lx .imp fO ((3,[40])::(n++[(3,[41])])) t u a:=oX (BZ h)
def iF (op:Nat):List UInt8:=if op=6 then [43] else if op=7 then [45] else if op=14 then [38,38] else if op=15 then [124,124] else if op=16 then [45,62] else cOp op
theorem CP {op:Nat} (ho:6≤op∧op≤16) (h1:Lx .imp fO n1 t u a) (h2:Lx .imp fO n2 u w b) :
 Lx .imp fO (((3,[40])::(n1++[(3,[41])]))++(3,iF op)::((3,[40])::(n2++[(3,[41])]))) t (w++[nd2 op a b]) w.length:=by
 rcases (by omega:op=6∨op=7∨(8≤op∧op≤13)∨op=14∨op=15∨op=16) with rfl|rfl|h|rfl|rfl|rfl
 ·exact rH (sP (wS (.inl rfl) (qh h1) (qh h2))) (by simp) (dO (by decide))
 ·exact rH (sP (wS (.inr rfl) (qh h1) (qh h2))) (by simp) (dO (by decide))
 ·have e:iF op=cOp op:=by
   unfold iF
   rw [if_neg (by omega),if_neg (by omega),if_neg (by omega),if_neg (by omega),if_neg (by omega)]
  rw [e]
  exact rH (AX h.1 h.2 (uL h1) (uL h2)) (by simp) (dO (by decide))
 ·exact oX (wj (Bi (rk h1) (rk h2)))
 ·exact oX (Co (v3 h1) (v3 h2))
 ·exact BH (BZ h1) (Cm h2)
theorem Ck (h:Lx .imp fO n t u a):Lx .imp fO ((3,[45])::((3,[40])::(n++[(3,[41])]))) t (u++[nd2 4 a 0]) u.length:=BR (CB (qh h)) (by simp) (dO (by decide))
theorem C7 (h:Lx .imp fO n t u a):Lx .imp fO ((3,[33])::((3,[40])::(n++[(3,[41])]))) t (u++[nd2 5 a 0]) u.length:=oX (wj (uZ (Bt (rk h))))
theorem nO (h:Lx .atom s0 n t u a) (h0:n≠[]) (h1:nC (3,[45]) n) (h2:nC (3,[33]) n):Lx .imp fO n t u a:=BR (BX h h0 h1) h0 h2
theorem CV {x:List UInt8} {v:Nat} (hv:lit x=some v):Lx .imp fO [(1,x)] t (t++[⟨1,0,0,[],[],v⟩]) t.length:=by
 refine nO (fun l p ha hs=>?_) (by simp) (dO fun h=>by cases h) (dO fun h=>by cases h)
 have h:=ha.head
 have h1:=rZ (l:=l) (p:=p) (t:=t) (by rw [i0 h];rfl)
 have e1:bC l p t=.ok t.length (p+1) (t++[⟨1,0,0,[],[],v⟩]):=by
  unfold bC
  cases hx:l[p]? with
  |none=>rw [hx] at h;cases h
  |some y =>
   rw [hx] at h
   obtain ⟨k,y,z⟩:=y
   simp only [Option.map_some,er,Option.some.injEq,Prod.mk.injEq] at h
   obtain ⟨rfl,rfl⟩:=h
   simp only [hv,if_true,Option.getD_some]
 rw [e1] at h1
 exact h1
theorem CH {b:Bool}:Lx .imp fO [(2,if b then ey else cP)] t (t++[⟨2,0,0,[],[],if b then 1 else 0⟩]) t.length:=by
 refine nO (fun l p ha hs=>?_) (by simp) (dO fun h=>by cases h) (dO fun h=>by cases h)
 have h:=ha.head
 have h1:=rZ (l:=l) (p:=p) (t:=t) (by rw [i0 h];rfl)
 have e1:bC l p t=.ok t.length (p+1) (t++[⟨2,0,0,[],[],if b then 1 else 0⟩]):=by
  unfold bC
  cases hx:l[p]? with
  |none=>rw [hx] at h;cases h
  |some y =>
   rw [hx] at h
   obtain ⟨k,y,z⟩:=y
   simp only [Option.map_some,er,Option.some.injEq,Prod.mk.injEq] at h
   obtain ⟨rfl,rfl⟩:=h
   cases b<;>rfl
 rw [e1] at h1
 exact h1
theorem Cv {x:List UInt8} (h1:x≠ey) (h2:x≠cP):Lx .imp fO [(2,x)] t (t++[⟨3,0,0,x,[],0⟩]) t.length:=by
 refine nO (fun l p ha hs=>?_) (by simp) (dO fun h=>by cases h) (dO fun h=>by cases h)
 have h:=ha.head
 have h3:=rZ (l:=l) (p:=p) (t:=t) (by rw [i0 h];rfl)
 have hc:isS l (p+1) [58,58]=false:=hs _ (by decide)
 have e1:bC l p t=.ok t.length (p+1) (t++[⟨3,0,0,x,[],0⟩]):=by
  unfold bC
  cases hx:l[p]? with
  |none=>rw [hx] at h;cases h
  |some y =>
   rw [hx] at h
   obtain ⟨k,y,z⟩:=y
   simp only [Option.map_some,er,Option.some.injEq,Prod.mk.injEq] at h
   obtain ⟨rfl,rfl⟩:=h
   dsimp only
   rw [if_neg (by decide),if_pos rfl,if_neg h1,if_neg h2,hc];rfl
 rw [e1] at h3
 exact h3
theorem Df {x y:List UInt8} (h1:x≠ey) (h2:x≠cP):Lx .imp fO [(2,x),(3,[58,58]),(2,y)] t (t++[⟨3,0,0,x,y,0⟩]) t.length:=by
 refine nO (fun l p ha hs=>?_) (by simp) (dO fun h=>by cases h) (dO fun h=>by cases h)
 have h:=ha.head
 have g:=ha.tail.tail.head
 have h3:=rZ (l:=l) (p:=p) (t:=t) (by rw [i0 h];rfl)
 have hc:isS l (p+1) [58,58]=true:=gZ ha.tail
 have e1:bC l p t=.ok t.length (p+3) (t++[⟨3,0,0,x,y,0⟩]):=by
  unfold bC
  cases hx:l[p]? with
  |none=>rw [hx] at h;cases h
  |some z =>
   rw [hx] at h
   obtain ⟨k,z,w⟩:=z
   simp only [Option.map_some,er,Option.some.injEq,Prod.mk.injEq] at h
   obtain ⟨rfl,rfl⟩:=h
   dsimp only
   rw [if_neg (by decide),if_pos rfl,if_neg h1,if_neg h2,if_pos hc]
   cases hy:l[p+2]? with
   |none=>rw [show p+1+1=p+2 from rfl,hy] at g;cases g
   |some z2 =>
    rw [show p+1+1=p+2 from rfl,hy] at g
    obtain ⟨k2,y2,w2⟩:=z2
    simp only [Option.map_some,er,Option.some.injEq,Prod.mk.injEq] at g
    obtain ⟨rfl,rfl⟩:=g
    rfl
 rw [e1] at h3
 exact h3
end
theorem jK:∀ d,d<10→bG (UInt8.ofNat (48+d))=true∧bF (UInt8.ofNat (48+d))=false∧UInt8.ofNat (48+d)≠32∧UInt8.ofNat (48+d)≠120∧dg (UInt8.ofNat (48+d))=d:=by decide
theorem wu {P:UInt8→Prop} (hP:∀ d,d<10→P (UInt8.ofNat (48+d))):∀ (n:Nat) (b:List UInt8),(∀ c∈b,P c)→∀ c∈dtx n b,P c:=by
 intro n
 induction n using Nat.strongRecOn with
 |_ n ih =>
  intro b hb
  have h1:∀ c∈UInt8.ofNat (48+n % 10)::b,P c:=fun c hc=>by
   rcases List.mem_cons.1 hc with rfl|hc
   ·exact hP _ (Nat.mod_lt _ (by decide))
   ·exact hb c hc
  rw [dtx]
  split
  ·exact h1
  ·exact ih (n/10) (by omega) _ h1
theorem zo:∀ (n:Nat) (b:List UInt8),dtx n b≠[]:=by
 intro n
 induction n using Nat.strongRecOn with
 |_ n ih =>
  intro b
  rw [dtx]
  split
  ·simp
  ·exact ih (n/10) (by omega) _
theorem qH {m d:Nat} {b:List UInt8} (hd:d<10) (h:m*10+d<2^128):cz 10 m (UInt8.ofNat (48+d)::b)=cz 10 (m*10+d) b:=by
 rw [cz,(jK d hd).2.2.2.2,if_pos hd,if_pos h]
theorem Af:∀ (n:Nat) (b:List UInt8),n<2^128→cz 10 0 (dtx n b)=cz 10 n b:=by
 intro n
 induction n using Nat.strongRecOn with
 |_ n ih =>
  intro b hn
  have hm:n % 10<10:=Nat.mod_lt _ (by decide)
  rw [dtx]
  split
  ·rename_i h0
   rw [qH hm (by omega)]
   congr 1;omega
  ·rw [ih (n/10) (by omega) _ (by omega),qH hm (by omega)]
   congr 1;omega
theorem xb {n:Nat} (hn:n<2^128):lit (dtx n [])=some n:=by
 have h1:dw (dtx n []) [48,120]=false:=by
  have hx:∀ c∈dtx n [],c≠120:=wu (P:=fun c=>c≠120) (fun d hd=>(jK d hd).2.2.2.1) n [] (fun c hc=>by cases hc)
  unfold dw
  cases hb:((dtx n []).take ([48,120]:List UInt8).length==[48,120]) with
  |false=>rfl
  |true =>
   have h2:=beq_iff_eq.1 hb
   exact absurd rfl (hx 120 (List.mem_of_mem_take (i:=2) (by rw [show (dtx n []).take 2=[48,120] from h2];simp)))
 unfold lit
 rw [h1,if_neg (by simp),if_neg (zo _ _),Af n [] hn]
 rfl
theorem Cf {n:Nat} (hn:n<2^128):Tk sep (dtx n []) [(1,dtx n [])]:=by
 have h1:∀ c∈dtx n [],bG c=true∧bF c=false∧c≠32:=wu (fun d hd=>⟨(jK d hd).1,(jK d hd).2.1,(jK d hd).2.2.1⟩) n [] (fun c hc=>by cases hc)
 have h0:=zo n []
 have hh:(dtx n []).headD 0∈dtx n []:=by
  cases h:dtx n [] with
  |nil=>exact absurd h h0
  |cons c r=>exact List.mem_cons_self
 exact Tk.num (List.all_eq_true.2 fun c hc=>(h1 c hc).1) h0 (h1 _ hh).2.1 (by rw [xb hn];rfl) (h1 _ hh).2.2
def io (n:Nd):List UInt8:=if n.op=1 then dtx n.v [] else if n.op=2 then (if n.v=1 then ey else cP) else if n.attr=[] then n.name else n.name++([58,58]++n.attr)
def fU (s:List UInt8):List UInt8:=[40]++(s++[41])
def fp (ds:List (List UInt8)) (n:Nd):List UInt8:=if n.op≤3 then io n else if n.op=4 then [45]++fU (ds.getD n.a []) else if n.op=5 then [33]++fU (ds.getD n.a [])
 else fU (ds.getD n.a [])++([32]++(iF n.op++([32]++fU (ds.getD n.b []))))
def cm (t:List Nd):List (List UInt8):=t.foldl (fun ds n=>ds++[fp ds n]) []
def bL (t:List Nd) (i:Nat):List UInt8:=(cm t).getD i []
theorem xe {t:List Nd} {n:Nd}:cm (t++[n])=cm t++[fp (cm t) n]:=by
 unfold cm;rw [List.foldl_append];rfl
theorem j8 {t:List Nd} {i:Nat} (h:i<t.length):cm (t.take (i+1))=cm (t.take i)++[fp (cm (t.take i)) t[i]]:=by
 rw [← xe,List.take_append_getElem h]
theorem cX {t:List Nd}:∀ {i:Nat},i≤t.length→(cm (t.take i)).length=i
 |0,_=>by simp [cm]
 |i+1,h=>by rw [j8 (by omega),lAq,cX (by omega)];rfl
theorem uj {t:List Nd}:(cm t).length=t.length:=by have:=cX (t:=t) (nrq _);rwa [List.take_length] at this
theorem Ax {t:List Nd} {i k m:Nat} (hi:i<k) (hk:k≤m) (hm:m≤t.length):(cm (t.take m)).getD i []=(cm (t.take k)).getD i []:=by
 induction m with
 |zero=>omega
 |succ m ih =>
  by_cases h:k≤m
  ·rw [j8 (by omega),gEq,List.getElem?_append_left (by rw [cX (by omega)];omega),← gEq,ih h (by omega)]
  ·rw [show k=m+1 by omega]
theorem cG {t:List Nd} {i k:Nat} (hi:i<k) (hk:k≤t.length):(cm (t.take k)).getD i []=bL t i:=by
 have:=Ax hi hk (nrq _)
 rw [List.take_length] at this
 exact this.symm
theorem get_lt {α:Type} {t:List α} {i:Nat} {n:α} (h:t[i]?=some n):∃ hi:i<t.length,t[i]=n:=List.getElem?_eq_some_iff.1 h
theorem eZ {t:List Nd} {i:Nat} {n:Nd} (h:t[i]?=some n):bL t i=fp (cm (t.take i)) n:=by
 obtain ⟨hi,rfl⟩:=get_lt h
 rw [← cG (k:=i+1) (by omega) (by omega),j8 hi,gEq,List.getElem?_append_right (by rw [cX (by omega)];omega),cX (by omega),Nat.sub_self]
 rfl
theorem nV {s:List UInt8} {n:List T2} (h:Tk sep s n):Tk tQ (fU s) ((3,[40])::(n++[(3,[41])])) :=
 Tk.app Tk.par1 (Tk.app h Tk.par2 fun r _=>tj (by decide)) fun r _=>trivial
theorem Dr {op:Nat} (ho:6≤op∧op≤16):Tk (xX 62) (iF op) [(3,iF op)]∨Tk (xX 61) (iF op) [(3,iF op)]:=by
 rcases (by omega:op=6∨op=7∨op=8∨op=9∨op=10∨op=11∨op=12∨op=13∨op=14∨op=15∨op=16) with rfl|rfl|rfl|rfl|rfl|rfl|rfl|rfl|rfl|rfl|rfl
 ·exact .inl (Tk.plus.weak fun _ _=>trivial)
 ·exact .inl Tk.minus
 ·exact .inl ((Tk.two (by decide)).weak fun _ _=>trivial)
 ·exact .inl ((Tk.two (by decide)).weak fun _ _=>trivial)
 ·exact .inr Tk.less
 ·exact .inl ((Tk.two (by decide)).weak fun _ _=>trivial)
 ·exact .inr Tk.great
 ·exact .inl ((Tk.two (by decide)).weak fun _ _=>trivial)
 ·exact .inl ((Tk.two (by decide)).weak fun _ _=>trivial)
 ·exact .inl ((Tk.two (by decide)).weak fun _ _=>trivial)
 ·exact .inl ((Tk.two (by decide)).weak fun _ _=>trivial)
theorem A6 {op:Nat} (ho:6≤op∧op≤16):Tk (fun r=>∃ u,r=32::u) (iF op) [(3,iF op)]:=by
 rcases Dr ho with h|h
 ·exact h.weak fun r hr=>by obtain ⟨u,rfl⟩:=hr;exact ⟨32,u,rfl,by decide⟩
 ·exact h.weak fun r hr=>by obtain ⟨u,rfl⟩:=hr;exact ⟨32,u,rfl,by decide⟩
theorem Cx {op:Nat} (ho:6≤op∧op≤16) {s1 s2:List UInt8} {n1 n2:List T2} (h1:Tk sep s1 n1) (h2:Tk sep s2 n2) :
 Tk tQ (fU s1++([32]++(iF op++([32]++fU s2)))) (((3,[40])::(n1++[(3,[41])]))++(3,iF op)::((3,[40])::(n2++[(3,[41])]))) :=
 Tk.app (nV h1) (Tk.app Tk.space (Tk.app (A6 ho) (Tk.app Tk.space (nV h2) fun r _=>trivial) fun r _=>⟨_,rfl⟩) fun r _=>trivial) fun r _=>trivial
theorem lO {w:List UInt8} (h:lh w):Tk sep w [(2,w)]:=Tk.name h.1 h.2.1 h.2.2 fun e=>by have:=h.2.2;rw [e] at this;revert this;decide
theorem B4 {c:UInt8} (hc:c=45∨c=33) {s:List UInt8} {n:List T2} (h:Tk sep s n):Tk tQ ([c]++fU s) ((3,[c])::((3,[40])::(n++[(3,[41])]))):=by
 rcases hc with rfl|rfl
 ·exact Tk.app Tk.minus (nV h) fun r _=>⟨40,_,rfl,by decide⟩
 ·exact Tk.app Tk.bang (nV h) fun r _=>⟨40,_,rfl,by decide⟩
theorem nd {t:List Nd} {i:Nat} {n:Nd} (h:t[i]?=some n):t.take (i+1)=t.take i++[n]∧(t.take i).length=i:=by
 obtain ⟨hi,rfl⟩:=get_lt h
 exact ⟨(List.take_append_getElem hi).symm,by rw [List.length_take];omega⟩
theorem fG {t:List Nd} {i:Nat} {n:Nd} (h:t[i]?=some n):i<t.length:=(get_lt h).1
theorem Sb.ok {t:List Nd} {s r:Nat} (h:Sb t s r):∃ n,Tk sep (bL t r) n∧Lx .imp fO n (t.take s) (t.take (r+1)) r:=by
 induction h with
 |leaf h1 h2 =>
  obtain ⟨e1,e2⟩:=nd h1
  rw [eZ h1,e1]
  rename_i r n
  cases h2 with
  |num hv=>exact ⟨[(1,dtx _ [])],Cf hv,by have:=CV (t:=t.take r) (xb hv);rwa [e2] at this⟩
  |tru =>
   rename_i b
   refine ⟨[(2,if b then ey else cP)],?_,by have:=CH (t:=t.take r) (b:=b);rwa [e2] at this⟩
   cases b
   ·exact lO (w:=cP) ⟨by decide,by decide,by decide⟩
   ·exact lO (w:=ey) ⟨by decide,by decide,by decide⟩
  |var hx a1 a2=>exact ⟨[(2,_)],lO hx,by have:=Cv (t:=t.take r) a1 a2;rwa [e2] at this⟩
  |att hx a1 a2 hy =>
   rename_i x y
   refine ⟨[(2,x),(3,[58,58]),(2,y)],?_,by have:=Df (t:=t.take r) (y:=y) a1 a2;rwa [e2] at this⟩
   have e3:fp (cm (t.take r)) ⟨3,0,0,x,y,0⟩=x++([58,58]++y):=by
    show (if y=[] then x else x++([58,58]++y))=_
    rw [if_neg hy.2.1]
   rw [e3]
   exact Tk.app (lO hx) (Tk.app (Tk.two (by decide)) (lO hy) fun _ _=>trivial) fun r _=>tj (by decide)
 |un h1 h2 ho ih =>
  rename_i s a op
  obtain ⟨n,k1,k2⟩:=ih
  obtain ⟨e1,e2⟩:=nd h2
  rw [eZ h2,e1]
  have hl:=fG h2
  have e3:(cm (t.take (a+1))).getD a []=bL t a:=cG (by omega) (by omega)
  rcases ho with rfl|rfl
  ·have e4:fp (cm (t.take (a+1))) (nd2 4 a 0)=[45]++fU (bL t a):=by rw [← e3];rfl
   rw [e4]
   refine ⟨_,(B4 (.inl rfl) k1).weak fun _ _=>trivial,?_⟩
   have:=Ck k2
   rwa [e2] at this
  ·have e4:fp (cm (t.take (a+1))) (nd2 5 a 0)=[33]++fU (bL t a):=by rw [← e3];rfl
   rw [e4]
   refine ⟨_,(B4 (.inr rfl) k1).weak fun _ _=>trivial,?_⟩
   have:=C7 k2
   rwa [e2] at this
 |bin h1 h2 h3 ho ih1 ih2 =>
  rename_i s a b op
  obtain ⟨n1,k1,k2⟩:=ih1
  obtain ⟨n2,j1,j2⟩:=ih2
  obtain ⟨e1,e2⟩:=nd h3
  have hl:=fG h3
  have hab:=h2.le.1
  rw [eZ h3,e1]
  have e3:(cm (t.take (b+1))).getD a []=bL t a:=cG (by omega) (by omega)
  have e3':(cm (t.take (b+1))).getD b []=bL t b:=cG (by omega) (by omega)
  have e4:fp (cm (t.take (b+1))) (nd2 op a b)=fU (bL t a)++([32]++(iF op++([32]++fU (bL t b)))):=by
   rw [← e3,← e3']
   unfold fp nd2
   rw [if_neg (by show ¬ op≤3;omega),if_neg (by show ¬ op=4;omega),if_neg (by show ¬ op=5;omega)]
  rw [e4]
  refine ⟨_,(Cx ho k1 j1).weak fun _ _=>trivial,?_⟩
  have:=CP ho k2 j2
  rwa [e2] at this
theorem zB {P:UInt8→Bool}:∀ (s:List UInt8) {d:UInt8},d∈s.takeWhile P→P d=true
 |[],d,h=>by cases h
 |c::r,d,h=>by
  rw [List.takeWhile_cons] at h
  split at h
  ·rename_i hc
   rcases List.mem_cons.1 h with rfl|h
   ·exact hc
   ·exact zB r h
  ·cases h
theorem xI {s:List UInt8} {kd:Nat} {x:List UInt8} (h:fx s=some (kd,x)) (hk:kd=2):lh x:=by
 subst hk
 unfold fx at h
 split at h
 ·split at h<;>cases h
 ·rename_i c y hc
  split at h
  ·rename_i h1
   cases h
   have hw:bP s=c::y:=hc
   refine ⟨List.all_eq_true.2 fun d hd=>?_,by simp,h1⟩
   rw [← hw] at hd
   unfold bP at hd
   exact zB _ hd
  ·split at h<;>cases h
theorem kX:∀ (f:Nat) (s:List UInt8) (k:Nat),nmL (cF f s k).1
 |0,s,k=>fun x hx=>by cases hx
 |f+1,[],k=>fun x hx=>by cases hx
 |f+1,c::r,k=>by
  unfold cF
  split
  ·exact kX f r (k+1)
  ·split
   ·exact fun x hx=>by cases hx
   ·rename_i kd x htk
    intro y hy hy2
    rcases List.mem_cons.1 hy with rfl|hy
    ·exact xI htk hy2
    ·exact kX f _ _ y hy hy2
theorem rq (s:List UInt8):nmL (aT s).1:=by
 unfold aT
 split
 ·exact fun x hx=>by cases hx
 ·have:=kX s.length (s.drop 0) 0
  change nmL (rest s 0).1 at this
  split
  ·rename_i h;rw [h] at this;exact this
  ·exact fun x hx=>by cases hx
theorem vB {s:List UInt8} {n:List T2} (hl:s.length≤400) (hk:Tk sep s n):(aT s).2.2=0∧(aT s).1.map er=n:=by
 have hr:(rest s 0).1.map er=n∧(rest s 0).2=none:=by
  have:=hk [] Be s.length 0 (by simp)
  rw [List.append_nil] at this
  unfold rest
  rw [List.drop_zero]
  obtain ⟨a1,a2⟩:=this
  have hn:∀ f k,cF f [] k=([],none):=fun f k=>by cases f<;>rfl
  rw [hn] at a1 a2
  rw [a1,a2]
  simp
 unfold aT
 rw [if_neg (by omega)]
 cases e:rest s 0 with
 |mk l o =>
  rw [e] at hr
  obtain ⟨h1,h2⟩:=hr
  dsimp only at h1 h2
  subst h2
  exact ⟨rfl,h1⟩
theorem yE {l:List Tok} {t:List Nd} (hl:nmL l) (h:dD l (prs l)=(t,0)):t≠[]∧Sb t 0 (t.length - 1)∧t.length≤120∧v5 t=false:=by
 obtain ⟨f,hf⟩:=wx l
 cases e:prs l with
 |bad p=>rw [e] at h;cases h
 |ok a p u =>
  rw [e] at h hf
  dsimp only [dD] at h
  split at h
  ·cases h
  split at h
  ·cases h
  rename_i h1 h2
  cases h
  obtain ⟨k1,k2,k3⟩:=wI hl f hf 0 (rfl:fP .imp [] 0)
  have h0:t≠[]:=by rintro rfl;simp at k3
  refine ⟨h0,by rwa [show t.length - 1=a by omega],?_,by simpa using h2⟩
  have:v5 t=false:=by simpa using h2
  unfold v5 at this
  rw [Bool.or_eq_false_iff] at this
  have:=of_decide_eq_false this.1
  omega
theorem zE {t:List Nd} (h0:t≠[]) (h:Sb t 0 (t.length - 1)) (hb:v5 t=false) (hl:(bL t (t.length - 1)).length≤400) :
 (aT (bL t (t.length - 1))).2.2=0∧dD (aT (bL t (t.length - 1))).1 (prs (aT (bL t (t.length - 1))).1)=(t,0):=by
 obtain ⟨n,h1,h2⟩:=h.ok
 obtain ⟨k1,k2⟩:=vB hl h1
 refine ⟨k1,?_⟩
 obtain ⟨L,hL⟩:∃ L,(aT (bL t (t.length - 1))).1=L:=⟨_,rfl⟩
 rw [hL] at k2 ⊢
 have hlen:L.length=n.length:=by rw [← k2,List.length_map]
 have hat:At L 0 n:=fun i x hx=>by rw [nzq,← List.getElem?_map,k2];exact hx
 have hpos:=List.length_pos_iff.2 h0
 obtain ⟨f,hf⟩:=h2 L 0 hat fun s _=>by
  unfold isS
  rw [gNq (by omega)]
 rw [List.take_zero,show t.length - 1+1=t.length by omega,List.take_length] at hf
 rw [vR hf]
 dsimp only [dD]
 rw [if_neg (by omega),if_neg (by rw [hb];simp)]
theorem vT {n:Nd} (h:jC n) (hv:n.v<2^128):(io n).length≤2002:=by
 unfold io
 have h1:=h.1
 have h2:=h.2.1
 split
 ·have:=A7 n.v [] 39 (Nat.lt_trans hv (by decide)) (by decide)
  simp at this;omega
 ·split
  ·split<;>decide
  ·split
   ·omega
   ·simp only [lAq,List.length_cons,List.length_nil];omega
theorem oa {op:Nat}:(iF op).length≤2:=by
 unfold iF
 repeat' split
 all_goals first|decide|(unfold cOp;split<;>decide)
theorem fo {s:List UInt8}:(fU s).length=s.length+2:=by unfold fU;simp
theorem Sb.len {t:List Nd} (ht:AllN jC t) (hg:Good t) {s r:Nat} (h:Sb t s r):(bL t r).length≤(r+1 - s)*2002:=by
 induction h with
 |leaf h1 h2 =>
  rename_i r n
  rw [eZ h1]
  have h3:n.op≤3:=by cases h2<;>exact Nat.le_of_ble_eq_true rfl
  unfold fp
  rw [if_pos h3]
  have:=vT (ht n (List.mem_of_getElem? h1)) (hg _ _ h1).2.2.1
  omega
 |un h1 h2 ho ih =>
  rename_i s a op
  have hl:=fG h2
  have hs:=h1.le.1
  have e3:(cm (t.take (a+1))).getD a []=bL t a:=cG (by omega) (by omega)
  rw [eZ h2]
  have e5:(fp (cm (t.take (a+1))) (nd2 op a 0)).length=(bL t a).length+3:=by
   rcases ho with rfl|rfl
   ·have e4:fp (cm (t.take (a+1))) (nd2 4 a 0)=[45]++fU (bL t a):=by rw [← e3];rfl
    rw [e4,lAq,fo];simp;omega
   ·have e4:fp (cm (t.take (a+1))) (nd2 5 a 0)=[33]++fU (bL t a):=by rw [← e3];rfl
    rw [e4,lAq,fo];simp;omega
  rw [e5]
  have:(a+1+1 - s)*2002=(a+1 - s)*2002+2002:=by rw [show a+1+1 - s=(a+1 - s)+1 by omega,Nat.add_mul]
  omega
 |bin h1 h2 h3 ho ih1 ih2 =>
  rename_i s a b op
  have hl:=fG h3
  have ha:=h1.le.1
  have hab:=h2.le.1
  rw [eZ h3]
  have e3:(cm (t.take (b+1))).getD a []=bL t a:=cG (by omega) (by omega)
  have e3':(cm (t.take (b+1))).getD b []=bL t b:=cG (by omega) (by omega)
  have e4:fp (cm (t.take (b+1))) (nd2 op a b)=fU (bL t a)++([32]++(iF op++([32]++fU (bL t b)))):=by
   rw [← e3,← e3']
   unfold fp nd2
   rw [if_neg (by show ¬ op≤3;omega),if_neg (by show ¬ op=4;omega),if_neg (by show ¬ op=5;omega)]
  rw [e4]
  simp only [lAq,fo,List.length_cons,List.length_nil]
  have:=oa (op:=op)
  have:(b+1+1 - s)*2002=(a+1 - s)*2002+(b+1 - (a+1))*2002+2002:=by
   rw [show b+1+1 - s=(a+1 - s)+(b+1 - (a+1))+1 by omega,Nat.add_mul,Nat.add_mul]
  omega
def Cw (o:List Nat) (n:Nd) (i:Nat):Option (List Nat) :=
 if (jp n).length≤o.length∧o.drop (o.length - (jp n).length)=jp n then some (o.take (o.length - (jp n).length)++[i]) else none
def jr (t:List Nd):Nat→Option (List Nat)
 |0=>some []
 |k+1=>(jr t k).bind fun o=>Cw o (t.getD k default) k
theorem sI {t:List Nd} {k:Nat} {n:Nd} {o:List Nat} (h:t[k]?=some n) (ho:jr t k=some (o++jp n)):jr t (k+1)=some (o++[k]):=by
 rw [jr,ho,Option.bind_some,gEq,h,Option.getD_some]
 unfold Cw
 have e:(o++jp n).length - (jp n).length=o.length:=by rw [lAq];omega
 rw [e,List.drop_left,List.take_left,if_pos ⟨by rw [lAq];omega,rfl⟩]
theorem Sb.stk {t:List Nd} {s r:Nat} (h:Sb t s r):∀ {o:List Nat},jr t s=some o→jr t (r+1)=some (o++[r]):=by
 induction h with
 |leaf h1 h2 =>
  intro o ho
  refine sI h1 ?_
  rename_i r n
  have:jp n=[]:=by cases h2<;>rfl
  rw [this,List.append_nil];exact ho
 |un h1 h2 ho ih =>
  intro o hk
  refine sI h2 ?_
  rcases ho with rfl|rfl<;>exact ih hk
 |bin h1 h2 h3 ho ih1 ih2 =>
  intro o hk
  rename_i s a b op
  refine sI h3 ?_
  have:jp (nd2 op a b)=[a,b]:=by
   unfold jp nd2
   rw [if_neg (by show ¬ op≤3;omega),if_neg (by show ¬ (op=4∨op=5);omega)]
  rw [this,ih2 (ih1 hk),List.append_assoc]
  rfl
theorem ut {t:List Nd} {o:List Nat}:∀ {k:Nat},jr t k=some o→∀ j,j≤k→∃ o',jr t j=some o'
 |0,h,j,hj=>by rw [Nat.le_zero.1 hj];exact ⟨_,h⟩
 |k+1,h,j,hj=>by
  rcases Nat.lt_or_ge j (k+1) with h1|h1
  ·rw [jr] at h
   cases e:jr t k with
   |none=>rw [e] at h;cases h
   |some o2=>exact ut e j (by omega)
  ·rw [show j=k+1 by omega];exact ⟨_,h⟩
theorem zV {t:List Nd} {o:List Nat} {k:Nat} {n:Nd} (hn:t[k]?=some n) (ho:jr t k=some o) {o2:List Nat} {m:Nat} (hm:jr t m=some o2) (hk:k<m) :
 ∃ p,o=p++jp n∧jr t (k+1)=some (p++[k]):=by
 obtain ⟨o',h⟩:=ut hm (k+1) hk
 have h':=h
 rw [jr,ho,Option.bind_some,gEq,hn,Option.getD_some] at h
 unfold Cw at h
 split at h
 ·rename_i hc
  refine ⟨o.take (o.length - (jp n).length),?_,?_⟩
  ·have:=List.take_append_drop (o.length - (jp n).length) o
   rw [hc.2] at this;exact this.symm
  ·rw [h'];exact h.symm
 ·cases h
end Go.AL
