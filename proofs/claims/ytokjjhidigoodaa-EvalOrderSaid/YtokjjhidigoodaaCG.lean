/- Contracts and plain laws, a part of the proof; no condition of its own. -/
import Derived.Test.YtokjjhidigoodaaLVal
import Derived.Test.YtokjjhidigoodaaAlBun
import Derived.Test.YtokjjhidigoodaaLSyn
open Go Go.AL Go.Proofs
namespace Go.AL
set_option linter.all false
set_option maxRecDepth 10000
theorem wc:ti Try.prog 22=some ⟨.slice 5,1,24,.slice .nil 1 []⟩:=by kernel_rfl
theorem yP:ti Try.prog 3=some ⟨.int .i64,1,8,.int .i64 0⟩:=by kernel_rfl
theorem xw:ti Try.prog 177=some ⟨.int .u64,1,8,.int .u64 0⟩:=by kernel_rfl
theorem zN:ti Try.prog 5=some ⟨.int .u8,1,1,.int .u8 0⟩:=by kernel_rfl
theorem wP:ti Try.prog 4=some ⟨.bool,1,1,.bool false⟩:=by kernel_rfl
theorem tQ:ti Try.prog 9=some ⟨.string,1,16,.str []⟩:=by kernel_rfl
attribute [go_sem] wc yP xw zN wP tQ
def yH (n:Int) (j:Nat):UInt8:=UInt8.ofNat (hJ .i64 n (8*(j:Int)) % 256).toNat
/-- the low bytes of n, the most significant one first: all but the last k of them -/
def yR (n:Int) (w k:Nat):List UInt8:=(List.range (w - k)).map fun i=>yH n (w - 1 - i)
def be (n:Int) (w:Nat):List UInt8:=yR n w 0
end Go.AL
open Go Go.AL Go.Proofs
namespace Go.AL
set_option linter.all false
set_option maxRecDepth 10000
theorem y3:ti Try.prog 93=some ⟨.int .u64,1,8,.int .u64 0⟩:=by kernel_rfl
theorem zg:ti Try.prog 95=some ⟨.struct [(0,93,false),(1,93,false)],2,16,.agg [.int .u64 0,.int .u64 0]⟩:=by kernel_rfl
attribute [go_sem] y3 zg
def isV (hi lo:Int):Prop:=0≤hi∧hi<18446744073709551616∧0≤lo∧lo<18446744073709551616
def lg:List AV→AHeap→(AV→Prop)→Prop
 |[.agg [.int .u64 hi,.int .u64 lo],.int .i64 n],_,K=>(isV hi lo∧n<9223372036854775808)∧K (vv (vOf hi.toNat lo.toNat >>> n.toNat))
 |_,_,_=>False
theorem sF:EntOk Try.prog 63 (Ent.pure lg):=by
 refine EntOk.pure fun args H K h=>?_
 unfold lg at h
 split at h
 rotate_left
 ·exact h.elim
 rename_i hi lo n
 obtain ⟨⟨⟨h0,h1,h2,h3⟩,hn⟩,hK⟩:=h
 refine ⟨_,hK,?_⟩
 obtain ⟨x,rfl⟩:=d8 h0
 obtain ⟨y,rfl⟩:=d8 h2
 clear hK h0 h2
 rw [Int.toNat_natCast,Int.toNat_natCast]
 have hx:x<2^64:=by omega
 have hy:y<2^64:=by omega
 refine ACalls.fW ay TblOk.nil Try.func63 [.cell 4 95] (Nat.le_refl _) (T:=al []) (h:=fun hcl hlt=>?_)
 clear hlt
 simp only [go_sem,zav,byq]
 refine bD (fun t=>?_) (fun t=>bD (fun s=>?_) (fun s=>?_))
 ·have t':n.toNat=0:=by simp at t;omega
  rw [t',Nat.shiftRight_zero,u9 hy]
  simp (disch:=first|assumption|omega|(simp;done)|(simp;omega)|(simp only [bt,and_true];first|done|omega|(simp;done))) [↓zmk,beq,List.take_of_length_le,List.drop_append,List.take_append,ae,wk,wk2,wk1,wkM,wkL,ah,List.drop_eq_nil_of_le,hcl]
 ·simp at t s
  obtain ⟨m,rfl⟩:∃ m:Nat,n=m+64:=⟨(n - 64).toNat,by omega⟩
  have e1:IntKind.i64.wrap ((m:Int)+64 - 64)=m:=by rw [wrap_i64]<;>omega
  have e2:IntKind.u64.wrap (m:Int)=m:=by rw [iZ]<;>omega
  have e3:((m:Int)+64).toNat=m+64:=by omega
  have e4:vv (vOf x y >>> (m+64))=.agg [.int .u64 0,.int .u64 ((x >>> m:Nat):Int)]:=by
   rw [sT x y _ hy hx (by omega),Nat.add_sub_cancel]
   have:=u9 (hi:=0) (lo:=x >>> m) (u5 hx)
   simpa [vOf] using this
  rw [e3,e4,e1,e2,lP x m hx]
  repeat refine ⟨by omega,?_⟩
  simp (disch:=first|assumption|omega|(simp;done)|(simp;omega)|(simp only [bt,and_true];first|done|omega|(simp;done))) [↓zmk,beq,List.take_of_length_le,List.drop_append,List.take_append,ae,wk,wk2,wk1,wkM,wkL,ah,List.drop_eq_nil_of_le,hcl]
 ·simp at t s
  obtain ⟨m,rfl⟩:∃ m:Nat,n=m:=⟨n.toNat,by omega⟩
  have hm:m<64:=by omega
  have e1:IntKind.i64.wrap (64 - (m:Int))=((64 - m:Nat):Int):=by rw [wrap_i64]<;>omega
  have e2:IntKind.u64.wrap (m:Int)=m:=by rw [iZ]<;>omega
  have e3:IntKind.u64.wrap ((64 - m:Nat):Int)=((64 - m:Nat):Int):=by rw [iZ]<;>omega
  have e4:vv (vOf x y >>> m)=.agg [.int .u64 ((x >>> m:Nat):Int),.int .u64 (((y >>> m ||| (x <<< (64 - m)) % 2^64:Nat)):Int)]:=by
   unfold vv
   rw [vA x y m hy,uI x y m hy hm]
  rw [e1,e2,e3,Int.toNat_natCast,e4,lP x m hx,lP y m hy,ws,xC _ _ (u5 hy) (Nat.mod_lt _ (by decide))]
  repeat refine ⟨by omega,?_⟩
  simp (disch:=first|assumption|omega|(simp;done)|(simp;omega)|(simp only [bt,and_true];first|done|omega|(simp;done))) [↓zmk,beq,List.take_of_length_le,List.drop_append,List.take_append,ae,wk,wk2,wk1,wkM,wkL,ah,List.drop_eq_nil_of_le,hcl]
end Go.AL
open Go Go.AL Go.Proofs
namespace Go.AL
set_option linter.all false
set_option maxRecDepth 10000
theorem xV:ti Try.prog 152=some ⟨.array 128 4,128,128,.agg (List.replicate 128 (.bool false))⟩:=by kernel_rfl
attribute [go_sem] xV
end Go.AL
open Go Go.AL Go.Proofs
namespace Go.AL
set_option linter.all false
set_option maxRecDepth 10000
end Go.AL
open Go Go.AL Go.Proofs
namespace Go.AL
set_option linter.all false
set_option maxRecDepth 10000
theorem uE:ti Try.prog 74=some ⟨.int .i64,1,8,.int .i64 0⟩:=by kernel_rfl
attribute [go_sem] uE
end Go.AL
open Go Go.AL Go.Proofs
namespace Go.AL
set_option linter.all false
set_option maxRecDepth 10000
end Go.AL
open Go Go.AL Go.Proofs
namespace Go.AL
set_option linter.all false
set_option maxRecDepth 10000
end Go.AL
open Go Go.AL Go.Proofs
namespace Go.AL
set_option linter.all false
set_option maxRecDepth 10000
end Go.AL
