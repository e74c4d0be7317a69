/- Contracts and plain laws, a part of the proof; no condition of its own. -/
import Derived.Test.YtiiiljghmilepaaLVal
/- Plain laws of integers in three words of 64 bits, two's complement. -/
namespace Go.AL
open Go
def w0 (z:Int):Int:=z % 2^64
def w1 (z:Int):Int:=z/2^64 % 2^64
def w2 (z:Int):Int:=z/2^64/2^64 % 2^64
/-- a number in memory -/
def nAV (z:Int):AV:=.agg [.int .u64 (w0 z),.int .u64 (w1 z),.int .u64 (w2 z)]
theorem vz (z:Int):0≤w0 z∧w0 z<18446744073709551616:=by unfold w0;omega
theorem u3 (z:Int):0≤w1 z∧w1 z<18446744073709551616:=by unfold w1;omega
theorem wd (z:Int):0≤w2 z∧w2 z<18446744073709551616:=by unfold w2;omega
/-! sums -/
/-! the negative -/
/-! small ones, values -/
theorem yf {a:Int} (ha : -(2^191)≤a∧a<2^191):w2 a=0↔0≤a∧a<2^128:=by
 unfold w2;omega
end Go.AL
