/- Lemmas of the proof; no condition. -/
import Derived.Test.YthnlhjalhflgfaaGreatLVal
import Derived.Test.YthnlhjalhflgfaaGreatAlByte
import Derived.Test.YthnlhjalhflgfaaGreatAlBun
set_option linter.all false
set_option maxRecDepth 10000
namespace Go.AL
open Go
def w0 (z:Int):Int:=z % 2^64
def w1 (z:Int):Int:=z/2^64 % 2^64
def w2 (z:Int):Int:=z/2^64/2^64 % 2^64
end Go.AL
open Go Go.AL Go.Proofs
namespace Go.AL
theorem MA:ti Tryz.prog 3=some ⟨.int .i64,1,8,.int .i64 0⟩:=krf
theorem HK:ti Tryz.prog 106=some ⟨.struct [(0,104,false),(1,104,false)],2,16,.agg [.int .u64 0,.int .u64 0]⟩:=krf
theorem NZ:ti Tryz.prog 104=some ⟨.int .u64,1,8,.int .u64 0⟩:=krf
attribute [go_sem] MA HK NZ
def dv:List Nat→Nat
 |[]=>0
 |d::l=>d+10*dv l
def isD (l:List Nat):Prop:=∀ d∈l,d<10
def dig (n i:Nat):Nat:=n/10^i % 10
def first (k n:Nat):List Nat:=(List.range k).map (dig n)
end Go.AL
open Go Go.AL Go.Proofs
namespace Go.AL
theorem KZ:ti Tryz.prog 4=some ⟨.bool,1,1,.bool false⟩:=krf
theorem NJ:tSl Tryz.prog 23 3:=kSl
attribute [go_sem] KZ NJ
def R4 (l:List AV):Prop:=isI l∧isD (uni l)
theorem ep {l:List Nat}:R4 (ki l)=isD l:=by unfold R4;rw [ve,nP];simp
end Go.AL
open Go Go.AL Go.Proofs
namespace Go.AL
def DD (a:Int):Prop:=a.natAbs<10^200
theorem small_le {a b:Int} (h:DD a) (hb:b.natAbs≤a.natAbs):DD b:=Nat.lt_of_le_of_lt hb h
end Go.AL
open Go Go.AL Go.Proofs
namespace Go.AL
theorem Je:ti Tryz.prog 94=some ⟨.int .u64,1,8,.int .u64 0⟩:=krf
theorem FI:tSl Tryz.prog 22 5:=kSl
theorem Qb:ti Tryz.prog 5=some ⟨.int .u8,1,1,.int .u8 0⟩:=krf
theorem Bo:ti Tryz.prog 9=some ⟨.string,1,16,.str []⟩:=krf
attribute [go_sem] Je FI Qb Bo
end Go.AL
open Go Go.AL Go.Proofs
namespace Go.AL
theorem Hq:ti Tryz.prog 312=some ⟨.array 128 4,128,128,.agg (List.replicate 128 (.bool false))⟩:=krf
attribute [go_sem] Hq
end Go.AL
open Go Go.AL Go.Proofs
namespace Go.AL
theorem Ni:tSl Tryz.prog 115 9:=kSl
attribute [go_sem] Ni
def Sn (s p:List UInt8):Bool:=s.take p.length==p
def dg (c:UInt8):Nat:=if 48≤c.toNat∧c.toNat≤57 then c.toNat - 48 else if 97≤c.toNat∧c.toNat≤102 then c.toNat - 87 else 99
def J6 (base:Nat):Nat→List UInt8→Option Nat
 |n,[]=>some n
 |n,c::s=>if dg c<base then (if n*base+dg c<2^128 then J6 base (n*base+dg c) s else none) else none
def lit (s:List UInt8):Option Nat:=if Sn s [48,120] then (if s.drop 2=[] then none else J6 16 0 (s.drop 2)) else if s=[] then none else J6 10 0 s
end Go.AL
