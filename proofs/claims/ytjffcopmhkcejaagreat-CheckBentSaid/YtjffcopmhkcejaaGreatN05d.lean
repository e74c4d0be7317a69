/- Lemmas of the proof; no condition. -/
import Derived.Test.YtjffcopmhkcejaaGreatLVal
import Derived.Test.YtjffcopmhkcejaaGreatAlByte
import Derived.Test.YtjffcopmhkcejaaGreatAlBun
set_option linter.all false
set_option maxRecDepth 10000
namespace Go.AL
open Go
def w0(z:Int):Int:=z%2^64
def w1(z:Int):Int:=z/2^64%2^64
def w2(z:Int):Int:=z/2^64/2^64%2^64
end Go.AL
open Go Go.AL Go.Proofs
namespace Go.AL
theorem Pc:ti Tryz.prog 3=some ⟨.int .i64,1,8,.int .i64 0⟩:=krf
theorem L2:ti Tryz.prog 94=some ⟨.struct [(0,92,false),(1,92,false)],2,16,.agg [.int .u64 0,.int .u64 0]⟩:=krf
theorem Pd:ti Tryz.prog 92=some ⟨.int .u64,1,8,.int .u64 0⟩:=krf
attribute [go_sem] Pc L2 Pd
def dv:List Nat→Nat
 |[]=>0
 |d::l=>d+10*dv l
def isD(l:List Nat):Prop:=∀ d∈l,d<10
def dig(n i:Nat):Nat:=n/10^i%10
def first(k n:Nat):List Nat:=(List.range k).map (dig n)
end Go.AL
open Go Go.AL Go.Proofs
namespace Go.AL
theorem JZ:ti Tryz.prog 4=some ⟨.bool,1,1,.bool false⟩:=krf
def OA:tSl Tryz.prog 23 3:=kSl
attribute [go_sem] JZ OA
def TM(l:Wz):Prop:=isI l∧isD (uni l)
def eN{l:List Nat}:TM (kJ l)=isD l:=by unfold TM;rw[wU,oR];simp
end Go.AL
open Go Go.AL Go.Proofs
namespace Go.AL
end Go.AL
open Go Go.AL Go.Proofs
namespace Go.AL
theorem M2:ti Tryz.prog 85=some ⟨.int .u64,1,8,.int .u64 0⟩:=krf
def GC:tSl Tryz.prog 22 5:=kSl
theorem R3:ti Tryz.prog 5=some ⟨.int .u8,1,1,.int .u8 0⟩:=krf
theorem Cv:ti Tryz.prog 9=some ⟨.string,1,16,.str []⟩:=krf
attribute [go_sem] M2 GC R3 Cv
end Go.AL
open Go Go.AL Go.Proofs
namespace Go.AL
theorem IJ:ti Tryz.prog 307=some ⟨.array 128 4,128,128,.agg (List.replicate 128 (.bool false))⟩:=krf
attribute [go_sem] IJ
end Go.AL
open Go Go.AL Go.Proofs
namespace Go.AL
def QC:tSl Tryz.prog 105 9:=kSl
attribute [go_sem] QC
def TB(s p:By):Bool:=s.take p.length==p
def dg(c:UInt8):Nat:=if 48≤c.toNat∧c.toNat≤57 then c.toNat-48 else if 97≤c.toNat∧c.toNat≤102 then c.toNat-87 else 99
def JM(base:Nat):Nat→By→Option Nat
 |n,[]=>some n
 |n,c::s=>if dg c<base then(if n*base+dg c<2^128 then JM base (n*base+dg c) s else none)else none
def lit(s:By):Option Nat:=if TB s [48,120]then(if s.drop 2=[]then none else JM 16 0 (s.drop 2))else if s=[]then none else JM 10 0 s
end Go.AL
