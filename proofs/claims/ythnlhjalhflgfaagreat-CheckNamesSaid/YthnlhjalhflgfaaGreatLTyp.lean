/- Lemmas of the proof; no condition. -/
import Derived.Test.YthnlhjalhflgfaaGreatLSyn2
set_option linter.all false
open Go Go.AL
namespace Go.AL
abbrev VN:=List UInt8 × List UInt8
def Oe (op:Nat):Bool:=op==1||op==3||op==4||op==6||op==7
def o9 (t:List Nd) (i:Nat):Bool:=match t[i]? with
 |some n=>Oe n.op
 |none=>false
def OU (t:List Nd) (n:Nd):Bool :=
 if n.op≤3 then true else if n.op=4 then o9 t n.a else if n.op=5 then !o9 t n.a
 else if n.op=8∨n.op=9 then o9 t n.a==o9 t n.b
 else if 14≤n.op then !o9 t n.a&&!o9 t n.b else o9 t n.a&&o9 t n.b
def ND (kn:VN→Bool) (t:List Nd) (n:Nd):Nat:=if n.op=3∧kn (n.name,n.attr)=false then 6 else if OU t n=true then 0 else 12
def LN (kn:VN→Bool) (t:List Nd) (k:Nat):Nat:=match t[k]? with
 |some n=>ND kn t n
 |none=>0
def CA (kn:VN→Bool) (t:List Nd):Nat→Nat→Option (Nat × Nat)
 |0,_=>none
 |f+1,k=>if LN kn t k=0 then CA kn t f (k+1) else some (k,LN kn t k)
def chk (kn:VN→Bool) (t:List Nd):Nat × Nat:=match CA kn t t.length 0 with
 |some r=>r
 |none=>if t.length=0 then (0,12) else if o9 t (t.length - 1)=true then (t.length - 1,12) else (0,0)
theorem Ni (l:List Tok):∃ r,∃ f,run l f .imp 0 []=some r:=by
 obtain ⟨f,r,h⟩:=AK l
 exact ⟨r,f,h⟩
noncomputable def prs (l:List Tok):PR:=Classical.choose (Ni l)
def OD (t:List Nd):Bool:=decide (120<t.length)||decide (12<La t)
def MG (l:List Tok):PR→List Nd × Nat
 |.ok _ p t=>if p<l.length then ([],10) else if OD t=true then ([],11) else (t,0)
 |.bad _=>([],10)
def OA:List Nd:=[⟨2,0,0,[],[],1⟩]
def Oj (kn:VN→Bool) (e:Nat) (te:List Nd × Nat):List Nd × Nat :=
 if e≠0 then ([],e) else if te.2≠0 then ([],te.2) else if (chk kn te.1).2≠0 then ([],(chk kn te.1).2) else (te.1,0)
noncomputable def comp (kn:VN→Bool) (s:List UInt8):List Nd × Nat :=
 if s=[] then (OA,0) else Oj kn (uM s).2.2 (MG (uM s).1 (prs (uM s).1))
def AllN (Q:Nd→Prop) (t:List Nd):Prop:=∀ n∈t,Q n
theorem AllN.snoc {Q:Nd→Prop} {t:List Nd} {n:Nd} (h:AllN Q t) (hn:Q n):AllN Q (t++[n]):=fun m hm=>by
 rcases List.mem_append.1 hm with h1|h1
 ·exact h m h1
 ·rw [List.mem_singleton.1 h1];exact hn
def fI (vs:List VN) (x:VN):Bool:=vs.contains x
end Go.AL
