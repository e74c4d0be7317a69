/- Lemmas of the proof; no condition. -/
import Derived.Test.YtpofmhikcgkdhaaGreatLTyp
set_option linter.all false
open Go Go.AL
namespace Go.AL
inductive Mv where
 |i (z:Int)
 |b (x:Bool)
 deriving DecidableEq,Inhabited
def Mv.num:Mv→Int
 |.i z=>z
 |.b _=>0
def Mv.bo:Mv→Bool
 |.i _=>false
 |.b x=>x
def Mv.isI:Mv→Bool
 |.i _=>true
 |.b _=>false
def mEq:Mv→Mv→Bool
 |.i z,y=>decide (z=y.num)
 |.b x,y=>x==y.bo
def B6 (e:List (VN × Nat)) (x:VN):Int:=match e with
 |[]=>0
 |(y,v)::r=>if y=x then (v:Int) else B6 r x
def opV (op:Nat) (x y:Mv):Mv :=
 if op=4 then .i (-x.num) else if op=6 then .i (x.num+y.num) else if op=7 then .i (x.num - y.num)
 else if op=10 then .b (decide (x.num<y.num)) else if op=11 then .b (decide (x.num≤y.num)) else if op=12 then .b (decide (y.num<x.num)) else if op=13 then .b (decide (y.num≤x.num))
 else if op=8 then .b (mEq x y) else if op=9 then .b (!mEq x y) else if op=5 then .b (!x.bo) else if op=14 then .b (x.bo&&y.bo) else if op=15 then .b (x.bo||y.bo) else .b (!x.bo||y.bo)
def Du (e:List (VN × Nat)) (l:List Mv) (n:Nd):Mv :=
 if n.op=1 then .i n.v else if n.op=2 then .b (decide (n.v=1)) else if n.op=3 then .i (B6 e (n.name,n.attr))
 else opV n.op (l.getD n.a (.b false)) (l.getD n.b (.b false))
def zh (e:List (VN × Nat)) (t:List Nd):Nat→List Mv
 |0=>[]
 |k+1=>zh e t k++[Du e (zh e t k) (t.getD k default)]
def val (e:List (VN × Nat)) (t:List Nd) (i:Nat):Mv:=(zh e t t.length).getD i (.b false)
inductive Sub (t:List Nd):Nat→Nat→Prop
 |leaf {r:Nat} {n:Nd}:t[r]?=some n→n.op≤3→Sub t r r
 |un {s a:Nat} {n:Nd}:Sub t s a→t[a+1]?=some n→(n.op=4∨n.op=5)→n.a=a→Sub t s (a+1)
 |bin {s a b:Nat} {n:Nd}:Sub t s a→Sub t (a+1) b→t[b+1]?=some n→6≤n.op→n.a=a→n.b=b→Sub t s (b+1)
theorem kb {t t':List Nd} {i:Nat} {n:Nd} (h:t <+: t') (hi:t[i]?=some n):t'[i]?=some n:=by
 obtain ⟨r,rfl⟩:=h
 have hlt:i<t.length:=by
  rcases Nat.lt_or_ge i t.length with h|h
  ·exact h
  ·rw [gNq h] at hi;cases hi
 rw [List.getElem?_append_left hlt];exact hi
theorem Sub.ext {t t':List Nd} {s r:Nat} (h:Sub t s r) (hp:t <+: t'):Sub t' s r:=by
 induction h with
 |leaf h1 h2=>exact .leaf (kb hp h1) h2
 |un _ h1 h2 h3 ih=>exact .un ih (kb hp h1) h2 h3
 |bin _ _ h1 h2 h3 h4 ih1 ih2=>exact .bin ih1 ih2 (kb hp h1) h2 h3 h4
theorem Sub.le {t:List Nd} {s r:Nat} (h:Sub t s r):s≤r∧r<t.length:=by
 have lt:∀ {i:Nat} {n:Nd},t[i]?=some n→i<t.length:=by
  intro i n hi
  rcases Nat.lt_or_ge i t.length with h|h
  ·exact h
  ·rw [gNq h] at hi;cases hi
 induction h with
 |leaf h1 _=>exact ⟨nrq _,lt h1⟩
 |un _ h1 _ _ ih=>exact ⟨by omega,lt h1⟩
 |bin _ _ h1 _ _ _ ih1 ih2=>exact ⟨by omega,lt h1⟩
theorem pd {t:List Nd} {n:Nd}:(t++[n])[t.length]?=some n:=by simp
theorem iD {t:List Nd} {n:Nd}:t <+: t++[n]:=⟨[n],rfl⟩
end Go.AL
