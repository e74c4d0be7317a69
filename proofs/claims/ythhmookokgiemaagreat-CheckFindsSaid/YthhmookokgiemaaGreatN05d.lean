/- Lemmas of the proof; no condition. -/
import Derived.Test.YthhmookokgiemaaGreatLVal
import Derived.Test.YthhmookokgiemaaGreatAlByte
import Derived.Test.YthhmookokgiemaaGreatAlBun
set_option linter.all false
set_option maxRecDepth 10000
namespace Go.AL
open Go
def w0 (z:Int):Int:=z % 2^64
def w1 (z:Int):Int:=z/2^64 % 2^64
def w2 (z:Int):Int:=z/2^64/2^64 % 2^64
end Go.AL
open Go Go.AL Go.Proofs
namespace Go.AL
theorem Ij:ti Tryz.prog 3=some ⟨.int .i64,1,8,.int .i64 0⟩:=by kernel_rfl
theorem Gy:ti Tryz.prog 119=some ⟨.struct [(0,117,false),(1,117,false)],2,16,.agg [.int .u64 0,.int .u64 0]⟩:=by kernel_rfl
theorem HN:ti Tryz.prog 117=some ⟨.int .u64,1,8,.int .u64 0⟩:=by kernel_rfl
attribute [go_sem] Ij Gy HN
def dv:List Nat→Nat
 |[]=>0
 |d::l=>d+10*dv l
def isD (l:List Nat):Prop:=∀ d∈l,d<10
def dig (n i:Nat):Nat:=n/10^i % 10
def first (k n:Nat):List Nat:=(List.range k).map (dig n)
end Go.AL
open Go Go.AL Go.Proofs
namespace Go.AL
theorem Dl:ti Tryz.prog 4=some ⟨.bool,1,1,.bool false⟩:=by kernel_rfl
theorem Hu:ti Tryz.prog 23=some ⟨.slice 3,1,24,.slice .nil 1 []⟩:=by kernel_rfl
attribute [go_sem] Dl Hu
def L5 (l:List AV):Prop:=isI l∧isD (uni l)
theorem cn {l:List Nat}:L5 (gP l)=isD l:=by unfold L5;rw [pX,ks];simp
end Go.AL
open Go Go.AL Go.Proofs
namespace Go.AL
end Go.AL
open Go Go.AL Go.Proofs
namespace Go.AL
theorem GF:ti Tryz.prog 95=some ⟨.int .u64,1,8,.int .u64 0⟩:=by kernel_rfl
theorem Bk:ti Tryz.prog 22=some ⟨.slice 5,1,24,.slice .nil 1 []⟩:=by kernel_rfl
theorem Kh:ti Tryz.prog 5=some ⟨.int .u8,1,1,.int .u8 0⟩:=by kernel_rfl
theorem yY:ti Tryz.prog 9=some ⟨.string,1,16,.str []⟩:=by kernel_rfl
attribute [go_sem] GF Bk Kh yY
end Go.AL
open Go Go.AL Go.Proofs
namespace Go.AL
theorem C3:ti Tryz.prog 317=some ⟨.array 128 4,128,128,.agg (List.replicate 128 (.bool false))⟩:=by kernel_rfl
attribute [go_sem] C3
end Go.AL
open Go Go.AL Go.Proofs
namespace Go.AL
theorem Jm:ti Tryz.prog 128=some ⟨.slice 9,1,24,.slice .nil 1 []⟩:=by kernel_rfl
attribute [go_sem] Jm
def LE (s p:List UInt8):Bool:=s.take p.length==p
def dg (c:UInt8):Nat:=if 48≤c.toNat∧c.toNat≤57 then c.toNat - 48 else if 97≤c.toNat∧c.toNat≤102 then c.toNat - 87 else 99
def Fh (base:Nat):Nat→List UInt8→Option Nat
 |n,[]=>some n
 |n,c::s=>if dg c<base then (if n*base+dg c<2^128 then Fh base (n*base+dg c) s else none) else none
def lit (s:List UInt8):Option Nat:=if LE s [48,120] then (if s.drop 2=[] then none else Fh 16 0 (s.drop 2)) else if s=[] then none else Fh 10 0 s
end Go.AL
