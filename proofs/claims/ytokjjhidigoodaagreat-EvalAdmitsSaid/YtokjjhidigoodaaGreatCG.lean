/- Contracts and plain laws, a part of the proof; no condition of its own. -/
import Derived.Test.YtokjjhidigoodaaGreatLVal
import Derived.Test.YtokjjhidigoodaaGreatAlBun
import Derived.Test.YtokjjhidigoodaaGreatLSyn
open Go Go.AL Go.Proofs
namespace Go.AL
set_option linter.all false
set_option maxRecDepth 10000
theorem HK:ti Tryz.prog 22=some ⟨.slice 5,1,24,.slice .nil 1 []⟩:=by kernel_rfl
theorem KZ:ti Tryz.prog 3=some ⟨.int .i64,1,8,.int .i64 0⟩:=by kernel_rfl
theorem Ih:ti Tryz.prog 121=some ⟨.int .u64,1,8,.int .u64 0⟩:=by kernel_rfl
theorem Lz:ti Tryz.prog 5=some ⟨.int .u8,1,1,.int .u8 0⟩:=by kernel_rfl
theorem Ja:ti Tryz.prog 4=some ⟨.bool,1,1,.bool false⟩:=by kernel_rfl
theorem CL:ti Tryz.prog 9=some ⟨.string,1,16,.str []⟩:=by kernel_rfl
attribute [go_sem] HK KZ Ih Lz Ja CL
def KC (n:Int) (j:Nat):UInt8:=UInt8.ofNat (nY .i64 n (8*(j:Int)) % 256).toNat
/-- the low bytes of n, the most significant one first: all but the last k of them -/
def J6 (n:Int) (w k:Nat):List UInt8:=(List.range (w - k)).map fun i=>KC n (w - 1 - i)
def be (n:Int) (w:Nat):List UInt8:=J6 n w 0
end Go.AL
open Go Go.AL Go.Proofs
namespace Go.AL
set_option linter.all false
set_option maxRecDepth 10000
theorem Kg:ti Tryz.prog 46=some ⟨.int .u64,1,8,.int .u64 0⟩:=by kernel_rfl
theorem KG:ti Tryz.prog 48=some ⟨.struct [(0,46,false),(1,46,false)],2,16,.agg [.int .u64 0,.int .u64 0]⟩:=by kernel_rfl
theorem KR:ti Tryz.prog 518=some ⟨.array 16 5,16,16,.agg (List.replicate 16 (.int .u8 0))⟩:=by kernel_rfl
attribute [go_sem] Kg KG KR
def isV (hi lo:Int):Prop:=0≤hi∧hi<18446744073709551616∧0≤lo∧lo<18446744073709551616
def tG:List AV→AHeap→(AV→Prop)→Prop
 |[.agg [.int .u64 hi,.int .u64 lo],.int .i64 n],_,K=>(isV hi lo∧n<9223372036854775808)∧K (vv (vOf hi.toNat lo.toNat >>> n.toNat))
 |_,_,_=>False
theorem EB:EntOk Tryz.prog 297 (Ent.pure tG):=by
 refine EntOk.pure fun args H K h=>?_
 unfold tG at h
 split at h
 rotate_left
 ·exact h.elim
 rename_i hi lo n
 obtain ⟨⟨⟨h0,h1,h2,h3⟩,hn⟩,hK⟩:=h
 refine ⟨_,hK,?_⟩
 obtain ⟨x,rfl⟩:=cf h0
 obtain ⟨y,rfl⟩:=cf h2
 clear hK h0 h2
 rw [Int.toNat_natCast,Int.toNat_natCast]
 have hx:x<2^64:=by omega
 have hy:y<2^64:=by omega
 refine ACalls.fW aB TblOk.nil Tryz.func297 [.cell 4 48] (Nat.le_refl _) (T:=aA []) (h:=fun hcl hlt=>?_)
 clear hlt
 simp only [go_sem,zav,byq]
 refine bD (fun t=>?_) (fun t=>bD (fun s=>?_) (fun s=>?_))
 ·have t':n.toNat=0:=by simp at t;omega
  rw [t',Nat.shiftRight_zero,tY hy]
  exact Z17
 ·simp at t s
  obtain ⟨m,rfl⟩:∃ m:Nat,n=m+64:=⟨(n - 64).toNat,by omega⟩
  have e1:IntKind.i64.wrap ((m:Int)+64 - 64)=m:=by rw [wrap_i64]<;>omega
  have e2:IntKind.u64.wrap (m:Int)=m:=by rw [cL]<;>omega
  have e3:((m:Int)+64).toNat=m+64:=by omega
  have e4:vv (vOf x y >>> (m+64))=.agg [.int .u64 0,.int .u64 ((x >>> m:Nat):Int)]:=by
   rw [EN x y _ hy hx (by omega),Nat.add_sub_cancel]
   have:=tY (hi:=0) (lo:=x >>> m) (xk hx)
   simpa [vOf] using this
  rw [e3,e4,e1,e2,nz x m hx]
  repeat refine ⟨by omega,?_⟩
  exact Z17
 ·simp at t s
  obtain ⟨m,rfl⟩:∃ m:Nat,n=m:=⟨n.toNat,by omega⟩
  have hm:m<64:=by omega
  have e1:IntKind.i64.wrap (64 - (m:Int))=((64 - m:Nat):Int):=by rw [wrap_i64]<;>omega
  have e2:IntKind.u64.wrap (m:Int)=m:=by rw [cL]<;>omega
  have e3:IntKind.u64.wrap ((64 - m:Nat):Int)=((64 - m:Nat):Int):=by rw [cL]<;>omega
  have e4:vv (vOf x y >>> m)=.agg [.int .u64 ((x >>> m:Nat):Int),.int .u64 (((y >>> m ||| (x <<< (64 - m)) % 2^64:Nat)):Int)]:=by
   unfold vv
   rw [F6 x y m hy,E2 x y m hy hm]
  rw [e1,e2,e3,Int.toNat_natCast,e4,nz x m hx,nz y m hy,lG,l5 _ _ (xk hy) (Nat.mod_lt _ (by decide))]
  repeat refine ⟨by omega,?_⟩
  exact Z17
end Go.AL
open Go Go.AL Go.Proofs
namespace Go.AL
set_option linter.all false
set_option maxRecDepth 10000
theorem I7:ti Tryz.prog 215=some ⟨.array 128 4,128,128,.agg (List.replicate 128 (.bool false))⟩:=by kernel_rfl
attribute [go_sem] I7
end Go.AL
open Go Go.AL Go.Proofs
namespace Go.AL
set_option linter.all false
set_option maxRecDepth 10000
end Go.AL
open Go Go.AL Go.Proofs
namespace Go.AL
set_option linter.all false
set_option maxRecDepth 10000
theorem Ds:ti Tryz.prog 472=some ⟨.struct [(0,22,false),(1,52,false)],2,32,.agg [.slice .nil 1 [],.int .i64 0]⟩:=by kernel_rfl
theorem E1:ti Tryz.prog 52=some ⟨.int .i64,1,8,.int .i64 0⟩:=by kernel_rfl
theorem Am:ti Tryz.prog 369=some ⟨.ptr 472,1,8,.nilp⟩:=by kernel_rfl
attribute [go_sem] Ds E1 Am
end Go.AL
open Go Go.AL Go.Proofs
namespace Go.AL
set_option linter.all false
set_option maxRecDepth 10000
end Go.AL
open Go Go.AL Go.Proofs
namespace Go.AL
set_option linter.all false
set_option maxRecDepth 10000
def th:List AV→AHeap→(AV→Prop)→Prop
 |[.agg l],_,K=>qU l∧K (vv (j0 l))
 |_,_,_=>False
theorem DZ:EntOk Tryz.prog 141 (Ent.pure th):=by
 refine EntOk.pure fun args H K h=>?_
 unfold th at h
 split at h
 rotate_left
 ·exact h.elim
 rename_i l
 obtain ⟨c1,hK⟩:=h
 refine ⟨_,hK,?_⟩
 obtain ⟨v,rfl,hv⟩:=l7 c1
 clear hK c1
 rw [dy hv]
 have v1:vv v=.agg [.int .u64 ((v/2^64:Nat):Int),.int .u64 ((v % 2^64:Nat):Int)]:=rfl
 have hbl:∀ i,i<64→(v % 2^64).testBit i=v.testBit i:=fun i hi=>by rw [Nat.testBit_mod_two_pow];simp [hi]
 have hbh:∀ i,(v/2^64).testBit i=v.testBit (i+64):=fun i=>by rw [Nat.testBit_div_two_pow]
 have hx:v/2^64<2^64:=by omega
 have hy:v % 2^64<2^64:=by omega
 rw [v1]
 generalize v/2^64=x at *
 generalize v % 2^64=y at *
 clear v1
 refine ACalls.fW aB TblOk.nil Tryz.func141 [.cell 2 48] (Nat.le_refl _) (T:=aA []) (h:=fun hcl hlt=>?_)
 clear hlt
 simp only [go_sem,byq]
 refine gU (A:=Nat) (fun k=>[(4,.int .i64 (k:Int)),(3,.ptr (H.nx+1+1) 0),(1,.ptr H.nx 0),(2,.ptr (H.nx+1) 0)])
  (fun k=>((H.push (.cells (bits v))).push (.cells [.int .u64 0,.int .u64 0])).push (.cells [.int .u64 ((x % 2^k:Nat):Int),.int .u64 ((y % 2^k:Nat):Int)])) (fun k=>k≤64) (fun k=>64 - k) 0 (by omega) ?_ fun k hk=>?_
 ·exact Z18
 simp only [go_sem,byq]
 refine aq (fun hc=>?_) (fun hc=>?_)
 ·have hk:k<64:=by simp at hc;omega
  have e1:IntKind.i64.wrap ((k:Int)+64)=((k+64:Nat):Int):=by rw [wrap_i64]<;>omega
  have e2:IntKind.u64.wrap (k:Int)=(k:Int):=by rw [cL]<;>omega
  have e3:IntKind.i64.wrap ((k:Int)+1)=((k+1:Nat):Int):=by rw [wrap_i64]<;>omega
  have g1:=ju v k (by omega)
  have g2:=ju v (k+64) (by omega)
  have e4:u7 .u64 1 (k:Int)=(((1 <<< k) % 2^64:Nat):Int):=lG 1 k
  have lx:x % 2^k<2^64:=Nat.lt_of_le_of_lt (Nat.mod_le _ _) hx
  have ly:y % 2^k<2^64:=Nat.lt_of_le_of_lt (Nat.mod_le _ _) hy
  have l1:(1 <<< k) % 2^64<2^64:=Nat.mod_lt _ (by decide)
  have o1:=l5 _ _ lx l1
  have o2:=l5 _ _ ly l1
  have hb1:=hbl k hk
  have hb2:=hbh k
  by_cases c1:v.testBit k=true<;>by_cases c2:v.testBit (k+64)=true
  ·rw [c1] at hb1 g1;rw [c2] at hb2 g2
   rw [kP x k hk hb2] at o1
   rw [kP y k hk hb1] at o2
   simp only [go_sem,zav,byq,e1,e2,e3,e4,Int.toNat_natCast,Nat.zero_add,Nat.mul_one,co,g1,g2,o1,o2]
   refine ⟨by omega,by omega,by omega,by omega,by omega,by omega,k+1,by omega,by omega,?_⟩
   exact Z19
  ·have c2:v.testBit (k+64)=false:=by simpa using c2
   rw [c1] at hb1 g1;rw [c2] at hb2 g2
   have o1:=ig x k hb2
   rw [kP y k hk hb1] at o2
   simp only [go_sem,zav,byq,e1,e2,e3,e4,Int.toNat_natCast,Nat.zero_add,Nat.mul_one,co,g1,g2,o2]
   refine ⟨by omega,by omega,by omega,by omega,by omega,k+1,by omega,by omega,?_⟩
   exact Z20
  ·have c1:v.testBit k=false:=by simpa using c1
   rw [c1] at hb1 g1;rw [c2] at hb2 g2
   have o2:=ig y k hb1
   rw [kP x k hk hb2] at o1
   simp only [go_sem,zav,byq,e1,e2,e3,e4,Int.toNat_natCast,Nat.zero_add,Nat.mul_one,co,g1,g2,o1]
   refine ⟨by omega,by omega,by omega,by omega,by omega,k+1,by omega,by omega,?_⟩
   exact Z21
  ·have c1:v.testBit k=false:=by simpa using c1
   have c2:v.testBit (k+64)=false:=by simpa using c2
   rw [c1] at hb1 g1;rw [c2] at hb2 g2
   have o1:=ig x k hb2
   have o2:=ig y k hb1
   simp only [go_sem,zav,byq,e1,e2,e3,e4,Int.toNat_natCast,Nat.zero_add,Nat.mul_one,co,g1,g2]
   refine ⟨by omega,by omega,by omega,by omega,k+1,by omega,by omega,?_⟩
   exact Z22
 ·have hk:k=64:=by simp at hc;omega
  subst hk
  have m1:x % 2^64=x:=Nat.mod_eq_of_lt hx
  have m2:y % 2^64=y:=Nat.mod_eq_of_lt hy
  simp only [go_sem,byq,m1,m2]
  exact Z17
end Go.AL
open Go Go.AL Go.Proofs
namespace Go.AL
set_option linter.all false
set_option maxRecDepth 10000
end Go.AL
