/- Contracts and plain laws, a part of the proof; no condition of its own. -/
import Derived.Test.YtiiiljghmilepaaAlByte
/- Plain laws of values: 128 bits as a number. No program. -/
namespace Go.AL
set_option linter.all false
/-- a value's number -/
def vOf (hi lo:Nat):Nat:=2^64*hi+lo
/-- a value as the program has it -/
def vv (v:Nat):AV:=.agg [.int .u64 ((v/2^64:Nat):Int),.int .u64 ((v % 2^64:Nat):Int)]
theorem xH {hi lo:Nat} (h:lo<2^64):vOf hi lo/2^64=hi:=by unfold vOf;omega
theorem xI {hi lo:Nat} (h:lo<2^64):vOf hi lo % 2^64=lo:=by unfold vOf;omega
theorem vD (v:Nat):vOf (v/2^64) (v % 2^64)=v:=by unfold vOf;omega
/-- the number of bits -/
def bl (n:Nat):Nat:=if n=0 then 0 else n.log2+1
theorem gf {n:Int} (h:0≤n):∃ m:Nat,n=m:=⟨n.toNat,by omega⟩
theorem nX (a:Nat):IntKind.wrap .u64 (a:Int)=((a % 2^64:Nat):Int):=by
 have:IntKind.wrap .u64 (a:Int)=(a:Int) % 18446744073709551616:=by simp [IntKind.wrap,IntKind.signed,IntKind.bits]
 rw [this];omega
theorem rt (a:Nat) (h:a<2^64):(BitVec.ofInt 64 (a:Int)).toNat=a:=by
 rw [BitVec.ofInt_natCast,BitVec.toNat_ofNat];exact Nat.mod_eq_of_lt h
theorem v9 (a b:Nat) (h:a<2^64) (k:b<2^64):tn .u64 (a:Int) (b:Int)=((a &&& b:Nat):Int):=by
 have hx:a &&& b<2^64:=Nat.and_lt_two_pow _ k
 show IntKind.wrap .u64 ((BitVec.ofInt 64 (a:Int) &&& BitVec.ofInt 64 (b:Int)).toNat:Int)=_
 rw [BitVec.toNat_and,rt a h,rt b k,nX,Nat.mod_eq_of_lt hx]
/-- the bits of a value, the last first -/
def bits (v:Nat):List AV:=(List.range 128).map fun j=>.bool (v.testBit j)
theorem ly:∀ (l:List AV) (n:Nat) (x:AV),splice l n [x]=l.set n x
 |[],n,x=>by simp [splice]
 |a::l,0,x=>by
  have:∀ m:List AV,splice m 0 []=m:=fun m=>by cases m<;>rfl
  simp [splice,this]
 |a::l,n+1,x=>by simp [splice,ly l n x]
end Go.AL
