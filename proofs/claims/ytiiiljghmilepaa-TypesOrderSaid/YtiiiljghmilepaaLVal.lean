/- Contracts and plain laws, a part of the proof; no condition of its own. -/
import Derived.Test.YtiiiljghmilepaaAlByte
/- Plain laws of values: 128 bits as a number. No program. -/
namespace Go.AL
set_option linter.all false
/-- a value's number -/
def vOf (hi lo:Nat):Nat:=2^64*hi+lo
theorem vH {hi lo:Nat} (h:lo<2^64):vOf hi lo/2^64=hi:=by unfold vOf;omega
theorem vq {hi lo:Nat} (h:lo<2^64):vOf hi lo % 2^64=lo:=by unfold vOf;omega
theorem sw (v:Nat):vOf (v/2^64) (v % 2^64)=v:=by unfold vOf;omega
/-- the number of bits -/
def bl (n:Nat):Nat:=if n=0 then 0 else n.log2+1
theorem eX {n:Int} (h:0≤n):∃ m:Nat,n=m:=⟨n.toNat,by omega⟩
theorem my (a:Nat):IntKind.wrap .u64 (a:Int)=((a % 2^64:Nat):Int):=by
 have:IntKind.wrap .u64 (a:Int)=(a:Int) % 18446744073709551616:=by simp [IntKind.wrap,IntKind.signed,IntKind.bits]
 rw [this];omega
theorem pS (a:Nat) (h:a<2^64):(BitVec.ofInt 64 (a:Int)).toNat=a:=by
 rw [BitVec.ofInt_natCast,BitVec.toNat_ofNat];exact Nat.mod_eq_of_lt h
theorem s8 (a b:Nat) (h:a<2^64) (k:b<2^64):qq .u64 (a:Int) (b:Int)=((a &&& b:Nat):Int):=by
 have hx:a &&& b<2^64:=Nat.and_lt_two_pow _ k
 show IntKind.wrap .u64 ((BitVec.ofInt 64 (a:Int) &&& BitVec.ofInt 64 (b:Int)).toNat:Int)=_
 rw [BitVec.toNat_and,pS a h,pS b k,my,Nat.mod_eq_of_lt hx]
/-- the bits of a value, the last first -/
def bits (v:Nat):List AV:=(List.range 128).map fun j=>.bool (v.testBit j)
end Go.AL
