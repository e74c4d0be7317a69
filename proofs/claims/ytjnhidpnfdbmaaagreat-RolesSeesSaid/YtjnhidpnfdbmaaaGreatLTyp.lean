/- Lemmas of the proof; no condition. -/
import Derived.Test.YtjnhidpnfdbmaaaGreatLSyn2
set_option linter.all false
open Go Go.AL
namespace Go.AL
abbrev VN:=List UInt8 × List UInt8
def Ck (op:Nat):Bool:=op==1||op==3||op==4||op==6||op==7
def jL (t:List Nd) (i:Nat):Bool:=match t[i]? with
 |some n=>Ck n.op
 |none=>false
def Dn (t:List Nd) (n:Nd):Bool :=
 if n.op≤3 then true else if n.op=4 then jL t n.a else if n.op=5 then !jL t n.a
 else if n.op=8∨n.op=9 then jL t n.a==jL t n.b
 else if 14≤n.op then !jL t n.a&&!jL t n.b else jL t n.a&&jL t n.b
def kh (kn:VN→Bool) (t:List Nd) (n:Nd):Nat:=if n.op=3∧kn (n.name,n.attr)=false then 6 else if Dn t n=true then 0 else 12
def qf (kn:VN→Bool) (t:List Nd) (k:Nat):Nat:=match t[k]? with
 |some n=>kh kn t n
 |none=>0
def iG (kn:VN→Bool) (t:List Nd):Nat→Nat→Option (Nat × Nat)
 |0,_=>none
 |f+1,k=>if qf kn t k=0 then iG kn t f (k+1) else some (k,qf kn t k)
def chk (kn:VN→Bool) (t:List Nd):Nat × Nat:=match iG kn t t.length 0 with
 |some r=>r
 |none=>if t.length=0 then (0,12) else if jL t (t.length - 1)=true then (t.length - 1,12) else (0,0)
theorem FP {kn:VN→Bool} {t:List Nd} {k:Nat}:qf kn t k≤12:=by
 unfold qf
 split
 ·unfold kh
  split
  ·omega
  ·split<;>omega
 ·omega
theorem zB {kn:VN→Bool} {t:List Nd} {k:Nat} (hk:k<t.length):iG kn t (t.length - k) k=if qf kn t k=0 then iG kn t (t.length - (k+1)) (k+1) else some (k,qf kn t k):=by
 rw [show t.length - k=(t.length - (k+1))+1 by omega];rfl
theorem vQ {kn:VN→Bool} {t:List Nd} {k:Nat} (hk:k<t.length):qf kn t k=kh kn t t[k]:=by
 unfold qf;rw [gQq hk]
theorem D9 {t:List Nd} {k:Nat} (hk:k<t.length):jL t k=Ck t[k].op:=by
 unfold jL;rw [gQq hk]
theorem F3 (l:List Tok):∃ r,∃ f,run l f .imp 0 []=some r:=by
 obtain ⟨f,r,h⟩:=Ex l
 exact ⟨r,f,h⟩
noncomputable def prs (l:List Tok):PR:=Classical.choose (F3 l)
theorem xh (l:List Tok):∃ f,run l f .imp 0 []=some (prs l):=Classical.choose_spec (F3 l)
def J5 (t:List Nd):Bool:=decide (120<t.length)||decide (12<j0 t)
def d8 (l:List Tok):PR→List Nd × Nat
 |.ok _ p t=>if p<l.length then ([],10) else if J5 t=true then ([],11) else (t,0)
 |.bad _=>([],10)
def oneT:List Nd:=[⟨2,0,0,[],[],1⟩]
def Cs (kn:VN→Bool) (e:Nat) (te:List Nd × Nat):List Nd × Nat :=
 if e≠0 then ([],e) else if te.2≠0 then ([],te.2) else if (chk kn te.1).2≠0 then ([],(chk kn te.1).2) else (te.1,0)
noncomputable def comp (kn:VN→Bool) (s:List UInt8):List Nd × Nat :=
 if s=[] then (oneT,0) else Cs kn (cF s).2.2 (d8 (cF s).1 (prs (cF s).1))
theorem r9 {l:List Tok} {r:PR} {f:Nat} (h:run l f .imp 0 []=some r):Good (d8 l r).1∧(d8 l r).1.length≤120∧((d8 l r).2=0→(d8 l r).1≠[]):=by
 have hw:=cd f h Good.nil trivial (Nat.zero_le _)
 cases r with
 |bad p=>exact ⟨Good.nil,by simp [d8],by simp [d8]⟩
 |ok a p t =>
  obtain ⟨k1,k2,k3,k4,k5,k6⟩:=hw
  dsimp only [d8]
  split
  ·exact ⟨Good.nil,by simp,by simp⟩
  ·split
   ·exact ⟨Good.nil,by simp,by simp⟩
   ·rename_i h1 h2
    refine ⟨k5,?_,fun _ e=>?_⟩
    ·simp [J5] at h2;show t.length≤120;omega
    ·have e':t=[]:=e
     subst e';simp at k1
theorem vW {kn:VN→Bool} {t:List Nd}:∀ {f k:Nat} {r:Nat × Nat},iG kn t f k=some r→r.2≠0
 |0,_,_,h=>by cases h
 |f+1,k,r,h=>by
  unfold iG at h
  split at h
  ·exact vW h
  ·rename_i h1;cases h;exact h1
theorem KD {kn:VN→Bool} {t:List Nd}:(chk kn t).1≤t.length∧(chk kn t).2≤12:=by
 have h:∀ {f k:Nat} {r:Nat × Nat},iG kn t f k=some r→r.1≤k+f∧r.2≤12:=by
  intro f
  induction f with
  |zero=>intro k r h;cases h
  |succ f ih =>
   intro k r h
   unfold iG at h
   split at h
   ·have:=ih h;omega
   ·cases h;exact ⟨by dsimp only;omega,FP⟩
 unfold chk
 split
 ·rename_i r hr;have:=h hr;omega
 ·split
  ·simp
  ·split<;>simp<;>omega
def AllN (Q:Nd→Prop) (t:List Nd):Prop:=∀ n∈t,Q n
theorem AllN.snoc {Q:Nd→Prop} {t:List Nd} {n:Nd} (h:AllN Q t) (hn:Q n):AllN Q (t++[n]):=fun m hm=>by
 rcases List.mem_append.1 hm with h1|h1
 ·exact h m h1
 ·rw [List.mem_singleton.1 h1];exact hn
theorem bS {o:Option PR} {k:Nat→Nat→List Nd→Option PR} {a q:Nat} {t':List Nd} (h:fX o k=some (.ok a q t')):∃ a1 p1 t1,o=some (.ok a1 p1 t1)∧k a1 p1 t1=some (.ok a q t'):=by
 rcases br h with ⟨p,_,e⟩|⟨a1,p1,t1,e1,e2⟩
 ·cases e
 ·exact ⟨a1,p1,t1,e1,e2⟩
theorem Hl {l:List Tok} {Q:Nd→Prop} (h2:∀ op a b,4≤op→Q (nd2 op a b)) (h1:∀ p t a q t',eM l p t=.ok a q t'→AllN Q t→AllN Q t') {rec:Rl→Nat→List Nd→Option PR}
 (h:∀ rl p t a q t',rec rl p t=some (.ok a q t')→AllN Q t→AllN Q t'):∀ {rl p t a q t'},eQ l rec rl p t=some (.ok a q t')→AllN Q t→AllN Q t':=by
 intro rl p t a q t' hr hg
 cases rl<;>simp only [eQ] at hr
 case imp =>
  obtain ⟨a1,p1,t1,e1,e2⟩:=bS hr
  have g1:=h _ _ _ _ _ _ e1 hg
  split at e2
  ·obtain ⟨a2,p2,t2,e3,e4⟩:=bS e2
   cases e4
   exact (h _ _ _ _ _ _ e3 g1).snoc (h2 _ _ _ (by decide))
  ·cases e2;exact g1
 case cmp =>
  obtain ⟨a1,p1,t1,e1,e2⟩:=bS hr
  have g1:=h _ _ _ _ _ _ e1 hg
  split at e2
  ·rename_i op hop
   obtain ⟨_,s,hs⟩:=il hop
   obtain ⟨a2,p2,t2,e3,e4⟩:=bS e2
   cases e4
   exact (h _ _ _ _ _ _ e3 g1).snoc (h2 _ _ _ (xk hs).1)
  ·cases e2;exact g1
 case atom =>
  split at hr
  ·obtain ⟨a1,p1,t1,e1,e2⟩:=bS hr
   split at e2
   ·cases e2;exact h _ _ _ _ _ _ e1 hg
   ·cases e2
  ·exact h1 _ _ _ _ _ (Option.some.inj hr) hg
 case not =>
  split at hr
  ·obtain ⟨a1,p1,t1,e1,e2⟩:=bS hr
   cases e2
   exact (h _ _ _ _ _ _ e1 hg).snoc (h2 _ _ _ (by decide))
  ·exact h _ _ _ _ _ _ hr hg
 case un =>
  split at hr
  ·obtain ⟨a1,p1,t1,e1,e2⟩:=bS hr
   cases e2
   exact (h _ _ _ _ _ _ e1 hg).snoc (h2 _ _ _ (by decide))
  ·exact h _ _ _ _ _ _ hr hg
 case orL a0 =>
  split at hr
  ·obtain ⟨a1,p1,t1,e1,e2⟩:=bS hr
   exact h _ _ _ _ _ _ e2 ((h _ _ _ _ _ _ e1 hg).snoc (h2 _ _ _ (by decide)))
  ·cases hr;exact hg
 case andL a0 =>
  split at hr
  ·obtain ⟨a1,p1,t1,e1,e2⟩:=bS hr
   exact h _ _ _ _ _ _ e2 ((h _ _ _ _ _ _ e1 hg).snoc (h2 _ _ _ (by decide)))
  ·cases hr;exact hg
 case sumL a0 =>
  split at hr
  ·rename_i op hop
   obtain ⟨_,s,hs⟩:=il hop
   obtain ⟨a1,p1,t1,e1,e2⟩:=bS hr
   exact h _ _ _ _ _ _ e2 ((h _ _ _ _ _ _ e1 hg).snoc (h2 _ _ _ (sO hs).1))
  ·cases hr;exact hg
 all_goals
  obtain ⟨a1,p1,t1,e1,e2⟩:=bS hr
  exact h _ _ _ _ _ _ e2 (h _ _ _ _ _ _ e1 hg)
theorem wH {l:List Tok} {Q:Nd→Prop} (h2:∀ op a b,4≤op→Q (nd2 op a b)) (h1:∀ p t a q t',eM l p t=.ok a q t'→AllN Q t→AllN Q t'):∀ (f:Nat) {rl p t a q t'},run l f rl p t=some (.ok a q t')→AllN Q t→AllN Q t'
 |0,_,_,_,_,_,_,h,_=>by cases h
 |f+1,_,_,_,_,_,_,h,hg=>Hl h2 h1 (fun _ _ _ _ _ _=>wH h2 h1 f) h hg
def s9 (n:Nd):Prop:=n.name.length≤1000∧n.attr.length≤1000∧(n.op≤3→n.a=0∧n.b=0)
theorem Ae {l:List Tok} (hl:r7 l):∀ p t a q t',eM l p t=.ok a q t'→AllN s9 t→AllN s9 t':=by
 intro p t a q t' h hg
 unfold eM at h
 split at h
 ·cases h
 ·rename_i k x y hx
  have hx1:x.length≤1000:=(hl _ (List.mem_of_getElem? hx)).1
  split at h
  ·cases h;exact hg.snoc ⟨Nat.zero_le _,Nat.zero_le _,fun _=>⟨rfl,rfl⟩⟩
  ·split at h
   ·split at h
    ·cases h;exact hg.snoc ⟨Nat.zero_le _,Nat.zero_le _,fun _=>⟨rfl,rfl⟩⟩
    ·split at h
     ·cases h;exact hg.snoc ⟨Nat.zero_le _,Nat.zero_le _,fun _=>⟨rfl,rfl⟩⟩
     ·split at h
      ·split at h
       ·cases h
       ·rename_i k2 y2 z2 hy
        have hy1:y2.length≤1000:=(hl _ (List.mem_of_getElem? hy)).1
        split at h
        ·cases h;exact hg.snoc ⟨hx1,hy1,fun _=>⟨rfl,rfl⟩⟩
        ·cases h
      ·cases h;exact hg.snoc ⟨hx1,Nat.zero_le _,fun _=>⟨rfl,rfl⟩⟩
   ·cases h
theorem wB {l:List Tok} {r:PR} {f:Nat} (hl:r7 l) (h:run l f .imp 0 []=some r):AllN s9 (d8 l r).1:=by
 have h0:AllN s9 ([]:List Nd):=fun n hn=>by cases hn
 cases r with
 |bad p=>exact h0
 |ok a p t =>
  dsimp only [d8]
  split
  ·exact h0
  ·split
   ·exact h0
   ·exact wH (fun _ _ _ h=>⟨Nat.zero_le _,Nat.zero_le _,fun h3=>by simp only [nd2] at h3;omega⟩) (Ae hl) f h h0
def mC (op:Nat):Nat:=if Ck op=true then 1 else 2
def yu (op:Nat):Nat:=if op≤3∨op=8∨op=9 then 0 else if op=5∨14≤op then 2 else 1
def uo (n:Nd):List Nat:=if n.op≤3 then [] else if n.op=4∨n.op=5 then [n.a] else [n.a,n.b]
def opA (t:List Nd) (k:Nat):Nat:=match t[k]? with
 |some n=>n.op
 |none=>0
def xg (t:List Nd) (w:Nat):List Nat→Bool
 |[]=>true
 |k::r=>if mC (opA t k)=(if w=0 then mC (opA t k) else w) then xg t (if w=0 then mC (opA t k) else w) r else false
theorem xD {t:List Nd} {k:Nat} (hk:k<t.length):opA t k=t[k].op:=by
 unfold opA;rw [gQq hk]
theorem oN (op:Nat):mC op=1∨mC op=2:=by unfold mC;split<;>simp
theorem wS {t:List Nd} {k:Nat} (hk:k<t.length):jL t k=(mC (opA t k)==1):=by
 rw [D9 hk,xD hk]
 unfold mC
 cases Ck t[k].op<;>rfl
theorem Nq (o a b w r1 r2:Nat) (h1:r1=1∨r1=2) (h2:r2=1∨r2=2) (hw:w=yu o) (ho:6≤o∧o≤16) :
 (if r1=(if w=0 then r1 else w) then (if r2=(if (if w=0 then r1 else w)=0 then r2 else (if w=0 then r1 else w)) then true else false) else false) =
 (if o=8∨o=9 then (r1==1)==(r2==1) else if 14≤o then !(r1==1)&&!(r2==1) else (r1==1)&&(r2==1)):=by
 subst hw
 obtain ⟨l1,l2⟩:=ho
 rcases (by omega:o=6∨o=7∨o=8∨o=9∨o=10∨o=11∨o=12∨o=13∨o=14∨o=15∨o=16) with rfl|rfl|rfl|rfl|rfl|rfl|rfl|rfl|rfl|rfl|rfl<;>rcases h1 with rfl|rfl<;>rcases h2 with rfl|rfl<;>decide
theorem JI {t:List Nd} {n:Nd} (h1:1≤n.op∧n.op≤16) (h:n.op≤3∨(n.a<t.length∧n.b<t.length)):xg t (yu n.op) (uo n)=Dn t n:=by
 unfold Dn uo
 by_cases h3:n.op≤3
 ·rw [if_pos h3,if_pos h3];rfl
 ·rw [if_neg h3,if_neg h3]
  obtain ⟨ha,hb⟩:n.a<t.length∧n.b<t.length:=by rcases h with h|h;omega;exact h
  rw [wS ha,wS hb]
  have ra:=oN (opA t n.a)
  have rb:=oN (opA t n.b)
  generalize hra:mC (opA t n.a)=r1 at *
  generalize hrb:mC (opA t n.b)=r2 at *
  by_cases h4:n.op=4
  ·rw [if_pos (.inl h4),if_pos h4,h4]
   simp only [xg,hra]
   rcases ra with rfl|rfl<;>decide
  ·by_cases h5:n.op=5
   ·rw [if_pos (.inr h5),if_neg h4,if_pos h5,h5]
    simp only [xg,hra]
    rcases ra with rfl|rfl<;>decide
   ·rw [if_neg (by omega),if_neg h4,if_neg h5,← Nq n.op n.a n.b _ r1 r2 ra rb rfl (by omega)]
    simp only [xg,hra,hrb]
def mW (k:Int):List (List UInt8) :=
 if k=1 then [[],[118,97,108,117,101]] else if k=2 then [[118,97,108,117,101],[112,114,101,102,105,120,95,108,101,110,103,116,104]]
 else if k=3 then [[118,97,108,117,101],[109,97,115,107]] else if k=4 then [[108,111,119],[104,105,103,104]] else []
def po:VN:=([112,114,105,111,114,105,116,121],[])
def gJ (name:List UInt8) (kind:Int):List VN:=(mW kind).map fun a=>(name,a)
def bQ (vs:List VN) (x:VN):Bool:=vs.contains x
end Go.AL
