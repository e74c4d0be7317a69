/- Lemmas of the proof; no condition. -/
import Derived.Test.YtjnhidpnfdbmaaaGreatLSch2
import Derived.Test.YtjnhidpnfdbmaaaGreatLSyn
set_option linter.all false
namespace Go.AL
structure SMatch where
 present:Bool
 value:Nat
 mask:Nat
 pfx:Int
 high:Nat
 deriving DecidableEq
structure SEntry where
 table:Int
 ms:List SMatch
 prio:Int
 act:Int
 args:List Nat
def bx (x:SMatch):List AV:=.bool x.present::(vc x.value++vc x.mask++[.int .i64 x.pfx]++vc x.high)
def aI (x:SMatch):AV:=.agg (bx x)
def aO (x:SEntry):List AV:=[.int .i64 x.table,.slice .any 8 (x.ms.map aI),.int .i64 x.prio,.int .i64 x.act,.slice .any 2 (x.args.map vv)]
def cD (x:SEntry):AV:=.agg (aO x)
def im:List SField→Int→Int
 |[],_=>0
 |f::fs,id=>if f.id=id then f.bits else im fs id
def cN (s:Sch) (id:Int):Int:=im s.fields id
def low (v:Nat) (w:Int):Nat:=if 128≤w then v else v % 2^w.toNat
def cm:SMatch:=⟨false,0,0,0,0⟩
def pe (b:List UInt8) (v:Nat):Nat:=cv b v 256 <<< 24 ||| cv b (v+1) 16 <<< 8 ||| cv b (v+2) 16
def qT (b:List UInt8) (v:Nat) (w:Int):Int:=[w,8,16,1,1+ci b v w.toNat].getD (cv b (v+1) 5) 0
def lU (b:List UInt8) (v:Nat):Nat:=[255,15,1,12,cv b v 256].getD (cv b (v+1) 5) 0
def n9 (x y:Nat) (w:Int):Nat:=min (x+y) (2^w.toNat - 1)
def nR (w n:Int):Nat:=2^w.toNat - 2^(w - n).toNat
def cj (b:List UInt8) (v:Nat) (w kind:Int):SMatch × Nat :=
 let x:=low (pe b v) w
 if kind=2 then (if 0<cv b (v+3) 5 then (⟨true,x &&& nR w (qT b (v+4) w),0,qT b (v+4) w,0⟩,v+6) else (cm,v+4))
 else if kind=3 then (if low (lU b (v+3)) w≠0 then (⟨true,x &&& low (lU b (v+3)) w,low (lU b (v+3)) w,0,0⟩,v+5) else (cm,v+5))
 else if kind=4 then (if 0<cv b (v+4) 5∧¬ (x=0∧n9 x (cv b (v+3) 256) w=2^w.toNat - 1) then (⟨true,x,0,0,n9 x (cv b (v+3) 256) w⟩,v+5) else (cm,v+5))
 else (⟨true,x,0,0,0⟩,v+3)
def cx (s:Sch) (b:List UInt8):List SKey→Nat→Int→(List SMatch × Int) × Nat
 |[],v,p=>(([],p),v)
 |k::ks,v,p =>
  let m:=cj b v (cN s k.field) k.kind
  let q:Int × Nat:=if k.kind=3∨k.kind=4 then (1+ci b m.2 5,m.2+1) else (p,m.2)
  let r:=cx s b ks q.2 q.1
  ((m.1::r.1.1,r.1.2),r.2)
def ja (b:List UInt8):List SParam→Nat→List Nat × Nat
 |[],v=>([],v)
 |p::ps,v=>(low (cv b v 256) p.bits::(ja b ps (v+1)).1,(ja b ps (v+1)).2)
def eY:List SAction→Int→SAction
 |[],_=>⟨0,[],[],[],[]⟩
 |a::ar,id=>if a.id=id then a else eY ar id
def pV:STable:=⟨0,[],[],[],0,[],0,[]⟩
def dd (s:Sch) (n:Int):STable:=s.tables.getD (n % (s.tables.length:Int)).toNat pV
def eK (s:Sch) (b:List UInt8) (v:Nat) (n:Int):SEntry × Nat :=
 let t:=dd s n
 let r:=cx s b t.keys v 0
 let act:=t.actions.getD (cv b r.2 t.actions.length) 0
 let g:=ja b (eY s.actions act).params (r.2+1)
 (⟨t.id,r.1.1,r.1.2,act,g.1⟩,g.2)
theorem Il (a b c d:Nat) (h:b<2^64) (k:d<2^64):vOf a b &&& vOf c d=vOf (a &&& c) (b &&& d):=by
 refine Nat.eq_of_testBit_eq fun j=>?_
 rw [Nat.testBit_and,jx h,jx k,jx (Nat.and_lt_two_pow _ k)]
 split<;>rw [Nat.testBit_and]
theorem H6 (a b c d:Nat) (h:b<2^64) (k:d<2^64):vOf a b ^^^ vOf c d=vOf (a ^^^ c) (b ^^^ d):=by
 refine Nat.eq_of_testBit_eq fun j=>?_
 rw [Nat.testBit_xor,jx h,jx k,jx (Nat.xor_lt_two_pow h k)]
 split<;>rw [Nat.testBit_xor]
theorem I4 {a b c d:Nat} (h:b<2^64) (k:d<2^64):vOf a b=vOf c d↔a=c∧b=d:=by
 unfold vOf;omega
theorem KO {a b c d:Nat} (h:b<2^64) (k:d<2^64):vOf a b<vOf c d↔a<c∨a=c∧b<d:=by
 unfold vOf;omega
def cG (n:Int):Nat:=(min (max 0 n) 128).toNat
theorem nC (n:Int):cG n≤128:=by unfold cG;omega
def i7 (n:Int):Nat:=2^cG n - 1
theorem lV (w j:Nat):(2^w - 1).testBit j=decide (j<w):=Nat.testBit_two_pow_sub_one w j
theorem mD (n:Int):i7 n<2^128:=by
 unfold i7
 have:=Nat.pow_le_pow_right (show 0<2 by decide) (nC n)
 have:=Nat.two_pow_pos (cG n)
 omega
theorem zX {w:Nat} (h:w≤128):(2^128 - 1) >>> (128 - w)=2^w - 1:=by
 refine Nat.eq_of_testBit_eq fun j=>?_
 rw [Nat.testBit_shiftRight,lV,lV,decide_eq_decide];omega
def uL (w n:Int):Nat:=i7 w ^^^ (2^(cG w - (min (max 0 n) (cG w)).toNat) - 1)
theorem EZ (w n:Int):uL w n<2^128:=by
 refine Nat.xor_lt_two_pow (mD w) ?_
 have h:(2^(cG w - (min (max 0 n) (cG w)).toNat))≤2^128:=Nat.pow_le_pow_right (by decide) (by have:=nC w;omega)
 have:=Nat.two_pow_pos (cG w - (min (max 0 n) (cG w)).toNat)
 omega
def fy (x y:Nat):Int:=if x=y then 0 else if x<y then -1 else 1
theorem Fh {x y i:Nat} (hx:x.testBit i=false) (hy:y.testBit i=true) (h:∀ j,i<j→x.testBit j=y.testBit j):x<y:=by
 have e:x/2^(i+1)=y/2^(i+1):=by
  refine Nat.eq_of_testBit_eq fun j=>?_
  rw [Nat.testBit_div_two_pow,Nat.testBit_div_two_pow]
  exact h _ (by omega)
 have px:=Nat.two_pow_pos i
 have mx:x % 2^(i+1)<2^i:=by
  refine Nat.lt_pow_two_of_testBit _ fun j hj=>?_
  rw [Nat.testBit_mod_two_pow]
  by_cases hji:j=i
  ·subst hji;simp [hx]
  ·simp [show ¬ j<i+1 by omega]
 have my:2^i≤y % 2^(i+1):=Nat.ge_two_pow_of_testBit (by rw [Nat.testBit_mod_two_pow];simp [hy])
 have dx:=Nat.div_add_mod x (2^(i+1))
 have dy:=Nat.div_add_mod y (2^(i+1))
 rw [e] at dx
 omega
end Go.AL
