/- Lemmas of the proof; no condition. -/
import Derived.Test.YtpofmhikcgkdhaaGreatLSyn2
set_option linter.all false
open Go Go.AL
namespace Go.AL
abbrev VN:=List UInt8 × List UInt8
def Dy (op:Nat):Bool:=op==1||op==3||op==4||op==6||op==7
def mq (t:List Nd) (i:Nat):Bool:=match t[i]? with
 |some n=>Dy n.op
 |none=>false
def Em (t:List Nd) (n:Nd):Bool :=
 if n.op≤3 then true else if n.op=4 then mq t n.a else if n.op=5 then !mq t n.a
 else if n.op=8∨n.op=9 then mq t n.a==mq t n.b
 else if 14≤n.op then !mq t n.a&&!mq t n.b else mq t n.a&&mq t n.b
def Dq (kn:VN→Bool) (t:List Nd) (n:Nd):Nat:=if n.op=3∧kn (n.name,n.attr)=false then 6 else if Em t n=true then 0 else 12
def BQ (kn:VN→Bool) (t:List Nd) (k:Nat):Nat:=match t[k]? with
 |some n=>Dq kn t n
 |none=>0
def zf (kn:VN→Bool) (t:List Nd):Nat→Nat→Option (Nat × Nat)
 |0,_=>none
 |f+1,k=>if BQ kn t k=0 then zf kn t f (k+1) else some (k,BQ kn t k)
def chk (kn:VN→Bool) (t:List Nd):Nat × Nat:=match zf kn t t.length 0 with
 |some r=>r
 |none=>if t.length=0 then (0,12) else if mq t (t.length - 1)=true then (t.length - 1,12) else (0,0)
theorem y4 (l:List Tok):∃ r,∃ f,run l f .imp 0 []=some r:=by
 obtain ⟨f,r,h⟩:=mZ l
 exact ⟨r,f,h⟩
noncomputable def prs (l:List Tok):PR:=Classical.choose (y4 l)
theorem wx (l:List Tok):∃ f,run l f .imp 0 []=some (prs l):=Classical.choose_spec (y4 l)
theorem vR {l:List Tok} {f:Nat} {r:PR} (h:run l f .imp 0 []=some r):prs l=r:=by
 obtain ⟨g,hg⟩:=wx l
 exact BJ hg h
def v5 (t:List Nd):Bool:=decide (120<t.length)||decide (12<dK t)
def dD (l:List Tok):PR→List Nd × Nat
 |.ok _ p t=>if p<l.length then ([],10) else if v5 t=true then ([],11) else (t,0)
 |.bad _=>([],10)
def D8:List Nd:=[⟨2,0,0,[],[],1⟩]
def Dp (kn:VN→Bool) (e:Nat) (te:List Nd × Nat):List Nd × Nat :=
 if e≠0 then ([],e) else if te.2≠0 then ([],te.2) else if (chk kn te.1).2≠0 then ([],(chk kn te.1).2) else (te.1,0)
noncomputable def comp (kn:VN→Bool) (s:List UInt8):List Nd × Nat :=
 if s=[] then (D8,0) else Dp kn (aT s).2.2 (dD (aT s).1 (prs (aT s).1))
theorem tB {l:List Tok} {r:PR} {f:Nat} (h:run l f .imp 0 []=some r):Good (dD l r).1∧(dD l r).1.length≤120∧((dD l r).2=0→(dD l r).1≠[]):=by
 have hw:=aH f h Good.nil trivial (Nat.zero_le _)
 cases r with
 |bad p=>exact ⟨Good.nil,by simp [dD],by simp [dD]⟩
 |ok a p t =>
  obtain ⟨k1,k2,k3,k4,k5,k6⟩:=hw
  dsimp only [dD]
  split
  ·exact ⟨Good.nil,by simp,by simp⟩
  ·split
   ·exact ⟨Good.nil,by simp,by simp⟩
   ·rename_i h1 h2
    refine ⟨k5,?_,fun _ e=>?_⟩
    ·simp [v5] at h2;show t.length≤120;omega
    ·have e':t=[]:=e
     subst e';simp at k1
def AllN (Q:Nd→Prop) (t:List Nd):Prop:=∀ n∈t,Q n
theorem AllN.snoc {Q:Nd→Prop} {t:List Nd} {n:Nd} (h:AllN Q t) (hn:Q n):AllN Q (t++[n]):=fun m hm=>by
 rcases List.mem_append.1 hm with h1|h1
 ·exact h m h1
 ·rw [List.mem_singleton.1 h1];exact hn
theorem bx {o:Option PR} {k:Nat→Nat→List Nd→Option PR} {a q:Nat} {t':List Nd} (h:dH o k=some (.ok a q t')):∃ a1 p1 t1,o=some (.ok a1 p1 t1)∧k a1 p1 t1=some (.ok a q t'):=by
 rcases aK h with ⟨p,_,e⟩|⟨a1,p1,t1,e1,e2⟩
 ·cases e
 ·exact ⟨a1,p1,t1,e1,e2⟩
theorem z4 {l:List Tok} {Q:Nd→Prop} (h2:∀ op a b,4≤op→Q (nd2 op a b)) (h1:∀ p t a q t',bC l p t=.ok a q t'→AllN Q t→AllN Q t') {rec:Rl→Nat→List Nd→Option PR}
 (h:∀ rl p t a q t',rec rl p t=some (.ok a q t')→AllN Q t→AllN Q t'):∀ {rl p t a q t'},aZ l rec rl p t=some (.ok a q t')→AllN Q t→AllN Q t':=by
 intro rl p t a q t' hr hg
 cases rl<;>simp only [aZ] at hr
 case imp =>
  obtain ⟨a1,p1,t1,e1,e2⟩:=bx hr
  have g1:=h _ _ _ _ _ _ e1 hg
  split at e2
  ·obtain ⟨a2,p2,t2,e3,e4⟩:=bx e2
   cases e4
   exact (h _ _ _ _ _ _ e3 g1).snoc (h2 _ _ _ (by decide))
  ·cases e2;exact g1
 case cmp =>
  obtain ⟨a1,p1,t1,e1,e2⟩:=bx hr
  have g1:=h _ _ _ _ _ _ e1 hg
  split at e2
  ·rename_i op hop
   obtain ⟨_,s,hs⟩:=dT hop
   obtain ⟨a2,p2,t2,e3,e4⟩:=bx e2
   cases e4
   exact (h _ _ _ _ _ _ e3 g1).snoc (h2 _ _ _ (rN hs).1)
  ·cases e2;exact g1
 case atom =>
  split at hr
  ·obtain ⟨a1,p1,t1,e1,e2⟩:=bx hr
   split at e2
   ·cases e2;exact h _ _ _ _ _ _ e1 hg
   ·cases e2
  ·exact h1 _ _ _ _ _ (Option.some.inj hr) hg
 case not =>
  split at hr
  ·obtain ⟨a1,p1,t1,e1,e2⟩:=bx hr
   cases e2
   exact (h _ _ _ _ _ _ e1 hg).snoc (h2 _ _ _ (by decide))
  ·exact h _ _ _ _ _ _ hr hg
 case un =>
  split at hr
  ·obtain ⟨a1,p1,t1,e1,e2⟩:=bx hr
   cases e2
   exact (h _ _ _ _ _ _ e1 hg).snoc (h2 _ _ _ (by decide))
  ·exact h _ _ _ _ _ _ hr hg
 case orL a0 =>
  split at hr
  ·obtain ⟨a1,p1,t1,e1,e2⟩:=bx hr
   exact h _ _ _ _ _ _ e2 ((h _ _ _ _ _ _ e1 hg).snoc (h2 _ _ _ (by decide)))
  ·cases hr;exact hg
 case andL a0 =>
  split at hr
  ·obtain ⟨a1,p1,t1,e1,e2⟩:=bx hr
   exact h _ _ _ _ _ _ e2 ((h _ _ _ _ _ _ e1 hg).snoc (h2 _ _ _ (by decide)))
  ·cases hr;exact hg
 case sumL a0 =>
  split at hr
  ·rename_i op hop
   obtain ⟨_,s,hs⟩:=dT hop
   obtain ⟨a1,p1,t1,e1,e2⟩:=bx hr
   exact h _ _ _ _ _ _ e2 ((h _ _ _ _ _ _ e1 hg).snoc (h2 _ _ _ (kB hs).1))
  ·cases hr;exact hg
 all_goals
  obtain ⟨a1,p1,t1,e1,e2⟩:=bx hr
  exact h _ _ _ _ _ _ e2 (h _ _ _ _ _ _ e1 hg)
theorem w7 {l:List Tok} {Q:Nd→Prop} (h2:∀ op a b,4≤op→Q (nd2 op a b)) (h1:∀ p t a q t',bC l p t=.ok a q t'→AllN Q t→AllN Q t'):∀ (f:Nat) {rl p t a q t'},run l f rl p t=some (.ok a q t')→AllN Q t→AllN Q t'
 |0,_,_,_,_,_,_,h,_=>by cases h
 |f+1,_,_,_,_,_,_,h,hg=>z4 h2 h1 (fun _ _ _ _ _ _=>w7 h2 h1 f) h hg
def jC (n:Nd):Prop:=n.name.length≤1000∧n.attr.length≤1000∧(n.op≤3→n.a=0∧n.b=0)
theorem vp {l:List Tok} (hl:lN l):∀ p t a q t',bC l p t=.ok a q t'→AllN jC t→AllN jC t':=by
 intro p t a q t' h hg
 unfold bC at h
 split at h
 ·cases h
 ·rename_i k x y hx
  have hx1:x.length≤1000:=(hl _ (List.mem_of_getElem? hx)).1
  split at h
  ·cases h;exact hg.snoc ⟨Nat.zero_le _,Nat.zero_le _,fun _=>⟨rfl,rfl⟩⟩
  ·split at h
   ·split at h
    ·cases h;exact hg.snoc ⟨Nat.zero_le _,Nat.zero_le _,fun _=>⟨rfl,rfl⟩⟩
    ·split at h
     ·cases h;exact hg.snoc ⟨Nat.zero_le _,Nat.zero_le _,fun _=>⟨rfl,rfl⟩⟩
     ·split at h
      ·split at h
       ·cases h
       ·rename_i k2 y2 z2 hy
        have hy1:y2.length≤1000:=(hl _ (List.mem_of_getElem? hy)).1
        split at h
        ·cases h;exact hg.snoc ⟨hx1,hy1,fun _=>⟨rfl,rfl⟩⟩
        ·cases h
      ·cases h;exact hg.snoc ⟨hx1,Nat.zero_le _,fun _=>⟨rfl,rfl⟩⟩
   ·cases h
theorem sK {l:List Tok} {r:PR} {f:Nat} (hl:lN l) (h:run l f .imp 0 []=some r):AllN jC (dD l r).1:=by
 have h0:AllN jC ([]:List Nd):=fun n hn=>by cases hn
 cases r with
 |bad p=>exact h0
 |ok a p t =>
  dsimp only [dD]
  split
  ·exact h0
  ·split
   ·exact h0
   ·exact w7 (fun _ _ _ h=>⟨Nat.zero_le _,Nat.zero_le _,fun h3=>by simp only [nd2] at h3;omega⟩) (vp hl) f h h0
def jp (n:Nd):List Nat:=if n.op≤3 then [] else if n.op=4∨n.op=5 then [n.a] else [n.a,n.b]
def cE (vs:List VN) (x:VN):Bool:=vs.contains x
end Go.AL
