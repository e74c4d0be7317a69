/- Lemmas of the proof; no condition. -/
import Derived.Test.YthnlhjalhflgfaaGreatLVal
import Derived.Test.YthnlhjalhflgfaaGreatAlByte
import Derived.Test.YthnlhjalhflgfaaGreatAlBun
set_option linter.all false
set_option maxRecDepth 10000
namespace Go.AL
open Go
def w0 (z:Int):Int:=z % 2^64
def w1 (z:Int):Int:=z/2^64 % 2^64
def w2 (z:Int):Int:=z/2^64/2^64 % 2^64
end Go.AL
open Go Go.AL Go.Proofs
namespace Go.AL
theorem Kk:ti Tryz.prog 3=some ⟨.int .i64,1,8,.int .i64 0⟩:=by kernel_rfl
theorem Ho:ti Tryz.prog 106=some ⟨.struct [(0,104,false),(1,104,false)],2,16,.agg [.int .u64 0,.int .u64 0]⟩:=by kernel_rfl
theorem KB:ti Tryz.prog 104=some ⟨.int .u64,1,8,.int .u64 0⟩:=by kernel_rfl
attribute [go_sem] Kk Ho KB
def dv:List Nat→Nat
 |[]=>0
 |d::l=>d+10*dv l
def isD (l:List Nat):Prop:=∀ d∈l,d<10
def dig (n i:Nat):Nat:=n/10^i % 10
def first (k n:Nat):List Nat:=(List.range k).map (dig n)
end Go.AL
open Go Go.AL Go.Proofs
namespace Go.AL
theorem F9:ti Tryz.prog 4=some ⟨.bool,1,1,.bool false⟩:=by kernel_rfl
theorem JZ:ti Tryz.prog 23=some ⟨.slice 3,1,24,.slice .nil 1 []⟩:=by kernel_rfl
attribute [go_sem] F9 JZ
def NP (l:List AV):Prop:=isI l∧isD (uni l)
theorem cB {l:List Nat}:NP (ic l)=isD l:=by unfold NP;rw [r9,kZ];simp
end Go.AL
open Go Go.AL Go.Proofs
namespace Go.AL
end Go.AL
open Go Go.AL Go.Proofs
namespace Go.AL
theorem D9:ti Tryz.prog 94=some ⟨.int .u64,1,8,.int .u64 0⟩:=by kernel_rfl
theorem Bl:ti Tryz.prog 22=some ⟨.slice 5,1,24,.slice .nil 1 []⟩:=by kernel_rfl
theorem Nn:ti Tryz.prog 5=some ⟨.int .u8,1,1,.int .u8 0⟩:=by kernel_rfl
theorem yU:ti Tryz.prog 9=some ⟨.string,1,16,.str []⟩:=by kernel_rfl
attribute [go_sem] D9 Bl Nn yU
end Go.AL
open Go Go.AL Go.Proofs
namespace Go.AL
theorem CK:ti Tryz.prog 312=some ⟨.array 128 4,128,128,.agg (List.replicate 128 (.bool false))⟩:=by kernel_rfl
attribute [go_sem] CK
end Go.AL
open Go Go.AL Go.Proofs
namespace Go.AL
theorem K3:ti Tryz.prog 115=some ⟨.slice 9,1,24,.slice .nil 1 []⟩:=by kernel_rfl
attribute [go_sem] K3
def NN (s p:List UInt8):Bool:=s.take p.length==p
def dg (c:UInt8):Nat:=if 48≤c.toNat∧c.toNat≤57 then c.toNat - 48 else if 97≤c.toNat∧c.toNat≤102 then c.toNat - 87 else 99
def Fj (base:Nat):Nat→List UInt8→Option Nat
 |n,[]=>some n
 |n,c::s=>if dg c<base then (if n*base+dg c<2^128 then Fj base (n*base+dg c) s else none) else none
def lit (s:List UInt8):Option Nat:=if NN s [48,120] then (if s.drop 2=[] then none else Fj 16 0 (s.drop 2)) else if s=[] then none else Fj 10 0 s
end Go.AL
