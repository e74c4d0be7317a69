/- Lemmas of the proof; no condition. -/
import Derived.Test.YthnlhjalhflgfaaGreatLVal
import Derived.Test.YthnlhjalhflgfaaGreatAlByte
import Derived.Test.YthnlhjalhflgfaaGreatAlBun
set_option linter.all false
set_option maxRecDepth 10000
namespace Go.AL
open Go
def w0 (z:Int):Int:=z % 2^64
def w1 (z:Int):Int:=z/2^64 % 2^64
def w2 (z:Int):Int:=z/2^64/2^64 % 2^64
end Go.AL
open Go Go.AL Go.Proofs
namespace Go.AL
theorem Nk:ti Tryz.prog 3=some ⟨.int .i64,1,8,.int .i64 0⟩:=krf
theorem Io:ti Tryz.prog 106=some ⟨.struct [(0,104,false),(1,104,false)],2,16,.agg [.int .u64 0,.int .u64 0]⟩:=krf
theorem OO:ti Tryz.prog 104=some ⟨.int .u64,1,8,.int .u64 0⟩:=krf
attribute [go_sem] Nk Io OO
def dv:List Nat→Nat
 |[]=>0
 |d::l=>d+10*dv l
def isD (l:List Nat):Prop:=∀ d∈l,d<10
def dig (n i:Nat):Nat:=n/10^i % 10
def first (k n:Nat):List Nat:=(List.range k).map (dig n)
end Go.AL
open Go Go.AL Go.Proofs
namespace Go.AL
theorem Fo:ti Tryz.prog 4=some ⟨.bool,1,1,.bool false⟩:=krf
theorem NA:tSl Tryz.prog 23 3:=kSl
attribute [go_sem] Fo NA
def Rv (l:List AV):Prop:=isI l∧isD (uni l)
theorem ea {l:List Nat}:Rv (j8 l)=isD l:=by unfold Rv;rw [vG,ng];simp
end Go.AL
open Go Go.AL Go.Proofs
namespace Go.AL
end Go.AL
open Go Go.AL Go.Proofs
namespace Go.AL
theorem GP:ti Tryz.prog 94=some ⟨.int .u64,1,8,.int .u64 0⟩:=krf
theorem DH:tSl Tryz.prog 22 5:=kSl
theorem QU:ti Tryz.prog 5=some ⟨.int .u8,1,1,.int .u8 0⟩:=krf
theorem Be:ti Tryz.prog 9=some ⟨.string,1,16,.str []⟩:=krf
attribute [go_sem] GP DH QU Be
end Go.AL
open Go Go.AL Go.Proofs
namespace Go.AL
theorem JE:ti Tryz.prog 312=some ⟨.array 128 4,128,128,.agg (List.replicate 128 (.bool false))⟩:=krf
attribute [go_sem] JE
end Go.AL
open Go Go.AL Go.Proofs
namespace Go.AL
theorem OT:tSl Tryz.prog 115 9:=kSl
attribute [go_sem] OT
def RB (s p:List UInt8):Bool:=s.take p.length==p
def dg (c:UInt8):Nat:=if 48≤c.toNat∧c.toNat≤57 then c.toNat - 48 else if 97≤c.toNat∧c.toNat≤102 then c.toNat - 87 else 99
def Lq (base:Nat):Nat→List UInt8→Option Nat
 |n,[]=>some n
 |n,c::s=>if dg c<base then (if n*base+dg c<2^128 then Lq base (n*base+dg c) s else none) else none
def lit (s:List UInt8):Option Nat:=if RB s [48,120] then (if s.drop 2=[] then none else Lq 16 0 (s.drop 2)) else if s=[] then none else Lq 10 0 s
end Go.AL
