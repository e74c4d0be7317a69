/- Lemmas of the proof; no condition. -/
import Derived.Test.YtjnhidpnfdbmaaaGreatLSyn2
set_option linter.all false
open Go Go.AL
namespace Go.AL
abbrev VN:=List UInt8 × List UInt8
def B3 (op:Nat):Bool:=op==1||op==3||op==4||op==6||op==7
def jI (t:List Nd) (i:Nat):Bool:=match t[i]? with
 |some n=>B3 n.op
 |none=>false
def Cy (t:List Nd) (n:Nd):Bool :=
 if n.op≤3 then true else if n.op=4 then jI t n.a else if n.op=5 then !jI t n.a
 else if n.op=8∨n.op=9 then jI t n.a==jI t n.b
 else if 14≤n.op then !jI t n.a&&!jI t n.b else jI t n.a&&jI t n.b
def km (kn:VN→Bool) (t:List Nd) (n:Nd):Nat:=if n.op=3∧kn (n.name,n.attr)=false then 6 else if Cy t n=true then 0 else 12
def qb (kn:VN→Bool) (t:List Nd) (k:Nat):Nat:=match t[k]? with
 |some n=>km kn t n
 |none=>0
def iJ (kn:VN→Bool) (t:List Nd):Nat→Nat→Option (Nat × Nat)
 |0,_=>none
 |f+1,k=>if qb kn t k=0 then iJ kn t f (k+1) else some (k,qb kn t k)
def chk (kn:VN→Bool) (t:List Nd):Nat × Nat:=match iJ kn t t.length 0 with
 |some r=>r
 |none=>if t.length=0 then (0,12) else if jI t (t.length - 1)=true then (t.length - 1,12) else (0,0)
theorem HK {kn:VN→Bool} {t:List Nd} {k:Nat}:qb kn t k≤12:=by
 unfold qb
 split
 ·unfold km
  split
  ·omega
  ·split<;>omega
 ·omega
theorem yh {kn:VN→Bool} {t:List Nd} {k:Nat} (hk:k<t.length):iJ kn t (t.length - k) k=if qb kn t k=0 then iJ kn t (t.length - (k+1)) (k+1) else some (k,qb kn t k):=by
 rw [show t.length - k=(t.length - (k+1))+1 by omega];rfl
theorem vw {kn:VN→Bool} {t:List Nd} {k:Nat} (hk:k<t.length):qb kn t k=km kn t t[k]:=by
 unfold qb;rw [gQq hk]
theorem DO {t:List Nd} {k:Nat} (hk:k<t.length):jI t k=B3 t[k].op:=by
 unfold jI;rw [gQq hk]
theorem FA (l:List Tok):∃ r,∃ f,run l f .imp 0 []=some r:=by
 obtain ⟨f,r,h⟩:=EC l
 exact ⟨r,f,h⟩
noncomputable def prs (l:List Tok):PR:=Classical.choose (FA l)
theorem xz (l:List Tok):∃ f,run l f .imp 0 []=some (prs l):=Classical.choose_spec (FA l)
def H7 (t:List Nd):Bool:=decide (120<t.length)||decide (12<kg t)
def dX (l:List Tok):PR→List Nd × Nat
 |.ok _ p t=>if p<l.length then ([],10) else if H7 t=true then ([],11) else (t,0)
 |.bad _=>([],10)
def oneT:List Nd:=[⟨2,0,0,[],[],1⟩]
def Co (kn:VN→Bool) (e:Nat) (te:List Nd × Nat):List Nd × Nat :=
 if e≠0 then ([],e) else if te.2≠0 then ([],te.2) else if (chk kn te.1).2≠0 then ([],(chk kn te.1).2) else (te.1,0)
noncomputable def comp (kn:VN→Bool) (s:List UInt8):List Nd × Nat :=
 if s=[] then (oneT,0) else Co kn (cD s).2.2 (dX (cD s).1 (prs (cD s).1))
theorem ri {l:List Tok} {r:PR} {f:Nat} (h:run l f .imp 0 []=some r):Good (dX l r).1∧(dX l r).1.length≤120∧((dX l r).2=0→(dX l r).1≠[]):=by
 have hw:=cf f h Good.nil trivial (Nat.zero_le _)
 cases r with
 |bad p=>exact ⟨Good.nil,by simp [dX],by simp [dX]⟩
 |ok a p t =>
  obtain ⟨k1,k2,k3,k4,k5,k6⟩:=hw
  dsimp only [dX]
  split
  ·exact ⟨Good.nil,by simp,by simp⟩
  ·split
   ·exact ⟨Good.nil,by simp,by simp⟩
   ·rename_i h1 h2
    refine ⟨k5,?_,fun _ e=>?_⟩
    ·simp [H7] at h2;show t.length≤120;omega
    ·have e':t=[]:=e
     subst e';simp at k1
theorem vR {kn:VN→Bool} {t:List Nd}:∀ {f k:Nat} {r:Nat × Nat},iJ kn t f k=some r→r.2≠0
 |0,_,_,h=>by cases h
 |f+1,k,r,h=>by
  unfold iJ at h
  split at h
  ·exact vR h
  ·rename_i h1;cases h;exact h1
theorem KX {kn:VN→Bool} {t:List Nd}:(chk kn t).1≤t.length∧(chk kn t).2≤12:=by
 have h:∀ {f k:Nat} {r:Nat × Nat},iJ kn t f k=some r→r.1≤k+f∧r.2≤12:=by
  intro f
  induction f with
  |zero=>intro k r h;cases h
  |succ f ih =>
   intro k r h
   unfold iJ at h
   split at h
   ·have:=ih h;omega
   ·cases h;exact ⟨by dsimp only;omega,HK⟩
 unfold chk
 split
 ·rename_i r hr;have:=h hr;omega
 ·split
  ·simp
  ·split<;>simp<;>omega
def AllN (Q:Nd→Prop) (t:List Nd):Prop:=∀ n∈t,Q n
theorem AllN.snoc {Q:Nd→Prop} {t:List Nd} {n:Nd} (h:AllN Q t) (hn:Q n):AllN Q (t++[n]):=fun m hm=>by
 rcases List.mem_append.1 hm with h1|h1
 ·exact h m h1
 ·rw [List.mem_singleton.1 h1];exact hn
theorem bR {o:Option PR} {k:Nat→Nat→List Nd→Option PR} {a q:Nat} {t':List Nd} (h:fR o k=some (.ok a q t')):∃ a1 p1 t1,o=some (.ok a1 p1 t1)∧k a1 p1 t1=some (.ok a q t'):=by
 rcases bu h with ⟨p,_,e⟩|⟨a1,p1,t1,e1,e2⟩
 ·cases e
 ·exact ⟨a1,p1,t1,e1,e2⟩
theorem Hy {l:List Tok} {Q:Nd→Prop} (h2:∀ op a b,4≤op→Q (nd2 op a b)) (h1:∀ p t a q t',eD l p t=.ok a q t'→AllN Q t→AllN Q t') {rec:Rl→Nat→List Nd→Option PR}
 (h:∀ rl p t a q t',rec rl p t=some (.ok a q t')→AllN Q t→AllN Q t'):∀ {rl p t a q t'},eN l rec rl p t=some (.ok a q t')→AllN Q t→AllN Q t':=by
 intro rl p t a q t' hr hg
 cases rl<;>simp only [eN] at hr
 case imp =>
  obtain ⟨a1,p1,t1,e1,e2⟩:=bR hr
  have g1:=h _ _ _ _ _ _ e1 hg
  split at e2
  ·obtain ⟨a2,p2,t2,e3,e4⟩:=bR e2
   cases e4
   exact (h _ _ _ _ _ _ e3 g1).snoc (h2 _ _ _ (by decide))
  ·cases e2;exact g1
 case cmp =>
  obtain ⟨a1,p1,t1,e1,e2⟩:=bR hr
  have g1:=h _ _ _ _ _ _ e1 hg
  split at e2
  ·rename_i op hop
   obtain ⟨_,s,hs⟩:=gO hop
   obtain ⟨a2,p2,t2,e3,e4⟩:=bR e2
   cases e4
   exact (h _ _ _ _ _ _ e3 g1).snoc (h2 _ _ _ (xj hs).1)
  ·cases e2;exact g1
 case atom =>
  split at hr
  ·obtain ⟨a1,p1,t1,e1,e2⟩:=bR hr
   split at e2
   ·cases e2;exact h _ _ _ _ _ _ e1 hg
   ·cases e2
  ·exact h1 _ _ _ _ _ (Option.some.inj hr) hg
 case not =>
  split at hr
  ·obtain ⟨a1,p1,t1,e1,e2⟩:=bR hr
   cases e2
   exact (h _ _ _ _ _ _ e1 hg).snoc (h2 _ _ _ (by decide))
  ·exact h _ _ _ _ _ _ hr hg
 case un =>
  split at hr
  ·obtain ⟨a1,p1,t1,e1,e2⟩:=bR hr
   cases e2
   exact (h _ _ _ _ _ _ e1 hg).snoc (h2 _ _ _ (by decide))
  ·exact h _ _ _ _ _ _ hr hg
 case orL a0 =>
  split at hr
  ·obtain ⟨a1,p1,t1,e1,e2⟩:=bR hr
   exact h _ _ _ _ _ _ e2 ((h _ _ _ _ _ _ e1 hg).snoc (h2 _ _ _ (by decide)))
  ·cases hr;exact hg
 case andL a0 =>
  split at hr
  ·obtain ⟨a1,p1,t1,e1,e2⟩:=bR hr
   exact h _ _ _ _ _ _ e2 ((h _ _ _ _ _ _ e1 hg).snoc (h2 _ _ _ (by decide)))
  ·cases hr;exact hg
 case sumL a0 =>
  split at hr
  ·rename_i op hop
   obtain ⟨_,s,hs⟩:=gO hop
   obtain ⟨a1,p1,t1,e1,e2⟩:=bR hr
   exact h _ _ _ _ _ _ e2 ((h _ _ _ _ _ _ e1 hg).snoc (h2 _ _ _ (su hs).1))
  ·cases hr;exact hg
 all_goals
  obtain ⟨a1,p1,t1,e1,e2⟩:=bR hr
  exact h _ _ _ _ _ _ e2 (h _ _ _ _ _ _ e1 hg)
theorem wE {l:List Tok} {Q:Nd→Prop} (h2:∀ op a b,4≤op→Q (nd2 op a b)) (h1:∀ p t a q t',eD l p t=.ok a q t'→AllN Q t→AllN Q t'):∀ (f:Nat) {rl p t a q t'},run l f rl p t=some (.ok a q t')→AllN Q t→AllN Q t'
 |0,_,_,_,_,_,_,h,_=>by cases h
 |f+1,_,_,_,_,_,_,h,hg=>Hy h2 h1 (fun _ _ _ _ _ _=>wE h2 h1 f) h hg
def s9 (n:Nd):Prop:=n.name.length≤1000∧n.attr.length≤1000∧(n.op≤3→n.a=0∧n.b=0)
theorem Al {l:List Tok} (hl:rp l):∀ p t a q t',eD l p t=.ok a q t'→AllN s9 t→AllN s9 t':=by
 intro p t a q t' h hg
 unfold eD at h
 split at h
 ·cases h
 ·rename_i k x y hx
  have hx1:x.length≤1000:=(hl _ (List.mem_of_getElem? hx)).1
  split at h
  ·cases h;exact hg.snoc ⟨Nat.zero_le _,Nat.zero_le _,fun _=>⟨rfl,rfl⟩⟩
  ·split at h
   ·split at h
    ·cases h;exact hg.snoc ⟨Nat.zero_le _,Nat.zero_le _,fun _=>⟨rfl,rfl⟩⟩
    ·split at h
     ·cases h;exact hg.snoc ⟨Nat.zero_le _,Nat.zero_le _,fun _=>⟨rfl,rfl⟩⟩
     ·split at h
      ·split at h
       ·cases h
       ·rename_i k2 y2 z2 hy
        have hy1:y2.length≤1000:=(hl _ (List.mem_of_getElem? hy)).1
        split at h
        ·cases h;exact hg.snoc ⟨hx1,hy1,fun _=>⟨rfl,rfl⟩⟩
        ·cases h
      ·cases h;exact hg.snoc ⟨hx1,Nat.zero_le _,fun _=>⟨rfl,rfl⟩⟩
   ·cases h
theorem xP {l:List Tok} {r:PR} {f:Nat} (hl:rp l) (h:run l f .imp 0 []=some r):AllN s9 (dX l r).1:=by
 have h0:AllN s9 ([]:List Nd):=fun n hn=>by cases hn
 cases r with
 |bad p=>exact h0
 |ok a p t =>
  dsimp only [dX]
  split
  ·exact h0
  ·split
   ·exact h0
   ·exact wE (fun _ _ _ h=>⟨Nat.zero_le _,Nat.zero_le _,fun h3=>by simp only [nd2] at h3;omega⟩) (Al hl) f h h0
def mT (op:Nat):Nat:=if B3 op=true then 1 else 2
def yD (op:Nat):Nat:=if op≤3∨op=8∨op=9 then 0 else if op=5∨14≤op then 2 else 1
def sJ (n:Nd):List Nat:=if n.op≤3 then [] else if n.op=4∨n.op=5 then [n.a] else [n.a,n.b]
def opA (t:List Nd) (k:Nat):Nat:=match t[k]? with
 |some n=>n.op
 |none=>0
def wM (t:List Nd) (w:Nat):List Nat→Bool
 |[]=>true
 |k::r=>if mT (opA t k)=(if w=0 then mT (opA t k) else w) then wM t (if w=0 then mT (opA t k) else w) r else false
theorem ww {t:List Nd} {k:Nat} (hk:k<t.length):opA t k=t[k].op:=by
 unfold opA;rw [gQq hk]
theorem ou (op:Nat):mT op=1∨mT op=2:=by unfold mT;split<;>simp
theorem wv {t:List Nd} {k:Nat} (hk:k<t.length):jI t k=(mT (opA t k)==1):=by
 rw [DO hk,ww hk]
 unfold mT
 cases B3 t[k].op<;>rfl
theorem Me (o a b w r1 r2:Nat) (h1:r1=1∨r1=2) (h2:r2=1∨r2=2) (hw:w=yD o) (ho:6≤o∧o≤16) :
 (if r1=(if w=0 then r1 else w) then (if r2=(if (if w=0 then r1 else w)=0 then r2 else (if w=0 then r1 else w)) then true else false) else false) =
 (if o=8∨o=9 then (r1==1)==(r2==1) else if 14≤o then !(r1==1)&&!(r2==1) else (r1==1)&&(r2==1)):=by
 subst hw
 obtain ⟨l1,l2⟩:=ho
 rcases (by omega:o=6∨o=7∨o=8∨o=9∨o=10∨o=11∨o=12∨o=13∨o=14∨o=15∨o=16) with rfl|rfl|rfl|rfl|rfl|rfl|rfl|rfl|rfl|rfl|rfl<;>rcases h1 with rfl|rfl<;>rcases h2 with rfl|rfl<;>decide
theorem JN {t:List Nd} {n:Nd} (h1:1≤n.op∧n.op≤16) (h:n.op≤3∨(n.a<t.length∧n.b<t.length)):wM t (yD n.op) (sJ n)=Cy t n:=by
 unfold Cy sJ
 by_cases h3:n.op≤3
 ·rw [if_pos h3,if_pos h3];rfl
 ·rw [if_neg h3,if_neg h3]
  obtain ⟨ha,hb⟩:n.a<t.length∧n.b<t.length:=by rcases h with h|h;omega;exact h
  rw [wv ha,wv hb]
  have ra:=ou (opA t n.a)
  have rb:=ou (opA t n.b)
  generalize hra:mT (opA t n.a)=r1 at *
  generalize hrb:mT (opA t n.b)=r2 at *
  by_cases h4:n.op=4
  ·rw [if_pos (.inl h4),if_pos h4,h4]
   simp only [wM,hra]
   rcases ra with rfl|rfl<;>decide
  ·by_cases h5:n.op=5
   ·rw [if_pos (.inr h5),if_neg h4,if_pos h5,h5]
    simp only [wM,hra]
    rcases ra with rfl|rfl<;>decide
   ·rw [if_neg (by omega),if_neg h4,if_neg h5,← Me n.op n.a n.b _ r1 r2 ra rb rfl (by omega)]
    simp only [wM,hra,hrb]
def mV (k:Int):List (List UInt8) :=
 if k=1 then [[],[118,97,108,117,101]] else if k=2 then [[118,97,108,117,101],[112,114,101,102,105,120,95,108,101,110,103,116,104]]
 else if k=3 then [[118,97,108,117,101],[109,97,115,107]] else if k=4 then [[108,111,119],[104,105,103,104]] else []
def pm:VN:=([112,114,105,111,114,105,116,121],[])
def gF (name:List UInt8) (kind:Int):List VN:=(mV kind).map fun a=>(name,a)
def bQ (vs:List VN) (x:VN):Bool:=vs.contains x
end Go.AL
