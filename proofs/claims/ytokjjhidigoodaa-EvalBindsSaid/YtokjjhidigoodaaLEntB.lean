/- Contracts and plain laws, a part of the proof; no condition of its own. -/
import Derived.Test.YtokjjhidigoodaaLSch2
import Derived.Test.YtokjjhidigoodaaLSyn
/- Entries and points as data, and those that a list of choices gives. No program. -/
namespace Go.AL
set_option linter.all false
structure SMatch where
 present:Bool
 value:Nat
 mask:Nat
 pfx:Int
 high:Nat
 deriving DecidableEq
structure SEntry where
 table:Int
 ms:List SMatch
 prio:Int
 act:Int
 args:List Nat
def dz (x:SMatch):List AV:=.bool x.present::(vc x.value++vc x.mask++[.int .i64 x.pfx]++vc x.high)
def bQ (x:SMatch):AV:=.agg (dz x)
def gJ (x:SEntry):List AV:=[.int .i64 x.table,.slice .any 8 (x.ms.map bQ),.int .i64 x.prio,.int .i64 x.act,.slice .any 2 (x.args.map vv)]
/-- the bits of a field -/
def gl:List SField→Int→Int
 |[],_=>0
 |f::fs,id=>if f.id=id then f.bits else gl fs id
def cK:SMatch:=⟨false,0,0,0,0⟩
end Go.AL
/- Plain laws of bits: combinations of values, ones, comparisons. No program. -/
namespace Go.AL
set_option linter.all false
/-- 128 truth values -/
def bfn (f:Nat→Bool):List AV:=(List.range 128).map fun j=>.bool (f j)
theorem BA (f:Nat→Bool):(bfn f).length=128:=by simp [bfn]
theorem qE {f g:Nat→Bool} (h:∀ j,j<128→f j=g j):bfn f=bfn g:=by
 unfold bfn
 refine List.map_congr_left fun j hj=>?_
 rw [h j (List.mem_range.1 hj)]
theorem zW {f:Nat→Bool} {v:Nat} (h:∀ j,j<128→f j=v.testBit j):bfn f=bits v:=qE h
theorem BO {f g:Nat→Bool} {i:Nat} {b:Bool} (h:∀ j,j<128→g j=if j=i then b else f j):(bfn f).set i (.bool b)=bfn g:=by
 apply List.ext_getElem
 ·simp [bfn]
 ·intro j h1 h2
  have hj:j<128:=by simpa [bfn] using h2
  rw [List.getElem_set]
  simp only [bfn,List.getElem_map,List.getElem_range,h j hj]
  by_cases e:i=j
  ·subst e;simp
  ·rw [if_neg e,if_neg (fun x=>e x.symm)]
theorem Bx:List.replicate 128 (AV.bool false)=bfn fun _=>false:=by
 apply List.ext_getElem
 ·simp [bfn]
 ·intro j h1 h2;rw [List.getElem_replicate];simp only [bfn,List.getElem_map]
/-- a number of bits of a value -/
def dw (n:Int):Nat:=(min (max 0 n) 128).toNat
theorem ma (n:Int):dw n≤128:=by unfold dw;omega
/-- the first n bits -/
def gQ (n:Int):Nat:=2^dw n - 1
theorem gh (w j:Nat):(2^w - 1).testBit j=decide (j<w):=Nat.testBit_two_pow_sub_one w j
theorem wV (n:Int) (j:Nat):(gQ n).testBit j=decide (j<dw n):=gh _ _
theorem Ba (n:Int):gQ n<2^128:=by
 unfold gQ
 have:=Nat.pow_le_pow_right (show 0<2 by decide) (ma n)
 have:=Nat.two_pow_pos (dw n)
 omega
theorem uP {w:Nat} (h:w≤128):(2^128 - 1) >>> (128 - w)=2^w - 1:=by
 refine Nat.eq_of_testBit_eq fun j=>?_
 rw [Nat.testBit_shiftRight,gh,gh,decide_eq_decide];omega
end Go.AL
