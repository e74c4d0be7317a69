/- Lemmas of the proof; no condition. -/
import Derived.Test.YtjffcopmhkcejaaGreatLSyn2
set_option linter.all false
open Go Go.AL
namespace Go.AL
abbrev VN:=By × By
def TL(op:Nat):Bool:=op==1||op==3||op==4||op==6||op==7
def s9(t:List Nd)(i:Nat):Bool:=match t[i]? with
 |some n=>TL n.op
 |none=>false
def UE(t:List Nd)(n:Nd):Bool :=
 if n.op≤3 then true else if n.op=4 then s9 t n.a else if n.op=5 then !s9 t n.a
 else if n.op=8∨n.op=9 then s9 t n.a==s9 t n.b
 else if 14≤n.op then !s9 t n.a&&!s9 t n.b else s9 t n.a&&s9 t n.b
def Ua(kn:VN→Bool)(t:List Nd)(n:Nd):Nat:=if n.op=3∧kn (n.name,n.attr)=false then 6 else if UE t n=true then 0 else 12
def Q4(kn:VN→Bool)(t:List Nd)(k:Nat):Nat:=match t[k]? with
 |some n=>Ua kn t n
 |none=>0
def Mf(kn:VN→Bool)(t:List Nd):Nat→Nat→Option (Nat × Nat)
 |0,_=>none
 |f+1,k=>if Q4 kn t k=0 then Mf kn t f (k+1)else some (k,Q4 kn t k)
def chk(kn:VN→Bool)(t:List Nd):Nat × Nat:=match Mf kn t t.length 0 with
 |some r=>r
 |none=>if t.length=0 then(0,12)else if s9 t (t.length-1)=true then(t.length-1,12)else(0,0)
theorem Sw(l:List Tok):∃ r,∃ f,run l f .imp 0 []=some r:=by
 obtain⟨f,r,h⟩:=FW l
 exact⟨r,f,h⟩
noncomputable def prs (l:List Tok):PR:=Classical.choose (Sw l)
def UD(t:List Nd):Bool:=decide (120<t.length)||decide (12<Ql t)
def RY(l:List Tok):PR→List Nd × Nat
 |.ok _ p t=>if p<l.length then([],10)else if UD t=true then([],11)else(t,0)
 |.bad _=>([],10)
def UG:List Nd:=[⟨2,0,0,[],[],1⟩]
def TO(kn:VN→Bool)(e:Nat)(te:List Nd × Nat):List Nd × Nat :=
 if e≠0 then([],e)else if te.2≠0 then([],te.2)else if(chk kn te.1).2≠0 then([],(chk kn te.1).2)else(te.1,0)
noncomputable def comp (kn:VN→Bool) (s:By):List Nd × Nat :=
 if s=[]then(UG,0)else TO kn (zI s).2.2 (RY (zI s).1 (prs (zI s).1))
def AllN(Q:Nd→Prop)(t:List Nd):Prop:=∀ n∈t,Q n
theorem AllN.snoc{Q:Nd→Prop}{t:List Nd}{n:Nd}(h:AllN Q t)(hn:Q n):AllN Q (t++[n]):=fun m hm=>by
 rcases List.mem_append.1 hm with h1|h1
 ·exact h m h1
 ·rw[List.mem_singleton.1 h1];exact hn
def ig(vs:List VN)(x:VN):Bool:=vs.contains x
end Go.AL
