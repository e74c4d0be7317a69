/- Lemmas of the proof; no condition. -/
import Derived.Test.YtjnhidpnfdbmaaaGreatLSch2
import Derived.Test.YtjnhidpnfdbmaaaGreatLSyn
set_option linter.all false
namespace Go.AL
structure SMatch where
 present:Bool
 value:Nat
 mask:Nat
 pfx:Int
 high:Nat
 deriving DecidableEq
structure SEntry where
 table:Int
 ms:List SMatch
 prio:Int
 act:Int
 args:List Nat
def bq (x:SMatch):List AV:=.bool x.present::(vc x.value++vc x.mask++[.int .i64 x.pfx]++vc x.high)
def aI (x:SMatch):AV:=.agg (bq x)
def aK (x:SEntry):List AV:=[.int .i64 x.table,.slice .any 8 (x.ms.map aI),.int .i64 x.prio,.int .i64 x.act,.slice .any 2 (x.args.map vv)]
def dZ (x:SEntry):AV:=.agg (aK x)
def io:List SField→Int→Int
 |[],_=>0
 |f::fs,id=>if f.id=id then f.bits else io fs id
def cO (s:Sch) (id:Int):Int:=io s.fields id
def low (v:Nat) (w:Int):Nat:=if 128≤w then v else v % 2^w.toNat
def cA:SMatch:=⟨false,0,0,0,0⟩
def pt (b:List UInt8) (v:Nat):Nat:=cv b v 256 <<< 24 ||| cv b (v+1) 16 <<< 8 ||| cv b (v+2) 16
def qY (b:List UInt8) (v:Nat) (w:Int):Int:=[w,8,16,1,1+ci b v w.toNat].getD (cv b (v+1) 5) 0
def l6 (b:List UInt8) (v:Nat):Nat:=[255,15,1,12,cv b v 256].getD (cv b (v+1) 5) 0
def nT (x y:Nat) (w:Int):Nat:=min (x+y) (2^w.toNat - 1)
def nP (w n:Int):Nat:=2^w.toNat - 2^(w - n).toNat
def cg (b:List UInt8) (v:Nat) (w kind:Int):SMatch × Nat :=
 let x:=low (pt b v) w
 if kind=2 then (if 0<cv b (v+3) 5 then (⟨true,x &&& nP w (qY b (v+4) w),0,qY b (v+4) w,0⟩,v+6) else (cA,v+4))
 else if kind=3 then (if low (l6 b (v+3)) w≠0 then (⟨true,x &&& low (l6 b (v+3)) w,low (l6 b (v+3)) w,0,0⟩,v+5) else (cA,v+5))
 else if kind=4 then (if 0<cv b (v+4) 5∧¬ (x=0∧nT x (cv b (v+3) 256) w=2^w.toNat - 1) then (⟨true,x,0,0,nT x (cv b (v+3) 256) w⟩,v+5) else (cA,v+5))
 else (⟨true,x,0,0,0⟩,v+3)
def cx (s:Sch) (b:List UInt8):List SKey→Nat→Int→(List SMatch × Int) × Nat
 |[],v,p=>(([],p),v)
 |k::ks,v,p =>
  let m:=cg b v (cO s k.field) k.kind
  let q:Int × Nat:=if k.kind=3∨k.kind=4 then (1+ci b m.2 5,m.2+1) else (p,m.2)
  let r:=cx s b ks q.2 q.1
  ((m.1::r.1.1,r.1.2),r.2)
def jj (b:List UInt8):List SParam→Nat→List Nat × Nat
 |[],v=>([],v)
 |p::ps,v=>(low (cv b v 256) p.bits::(jj b ps (v+1)).1,(jj b ps (v+1)).2)
def eX:List SAction→Int→SAction
 |[],_=>⟨0,[],[],[],[]⟩
 |a::ar,id=>if a.id=id then a else eX ar id
def pE:STable:=⟨0,[],[],[],0,[],0,[]⟩
def dT (s:Sch) (n:Int):STable:=s.tables.getD (n % (s.tables.length:Int)).toNat pE
def iw (s:Sch) (b:List UInt8) (v:Nat) (n:Int):SEntry × Nat :=
 let t:=dT s n
 let r:=cx s b t.keys v 0
 let act:=t.actions.getD (cv b r.2 t.actions.length) 0
 let g:=jj b (eX s.actions act).params (r.2+1)
 (⟨t.id,r.1.1,r.1.2,act,g.1⟩,g.2)
theorem Ja (a b c d:Nat) (h:b<2^64) (k:d<2^64):vOf a b &&& vOf c d=vOf (a &&& c) (b &&& d):=by
 refine Nat.eq_of_testBit_eq fun j=>?_
 rw [Nat.testBit_and,jv h,jv k,jv (Nat.and_lt_two_pow _ k)]
 split<;>rw [Nat.testBit_and]
theorem Ir (a b c d:Nat) (h:b<2^64) (k:d<2^64):vOf a b ^^^ vOf c d=vOf (a ^^^ c) (b ^^^ d):=by
 refine Nat.eq_of_testBit_eq fun j=>?_
 rw [Nat.testBit_xor,jv h,jv k,jv (Nat.xor_lt_two_pow h k)]
 split<;>rw [Nat.testBit_xor]
theorem IL {a b c d:Nat} (h:b<2^64) (k:d<2^64):vOf a b=vOf c d↔a=c∧b=d:=by
 unfold vOf;omega
theorem LO {a b c d:Nat} (h:b<2^64) (k:d<2^64):vOf a b<vOf c d↔a<c∨a=c∧b<d:=by
 unfold vOf;omega
def cG (n:Int):Nat:=(min (max 0 n) 128).toNat
theorem nv (n:Int):cG n≤128:=by unfold cG;omega
def jh (n:Int):Nat:=2^cG n - 1
theorem lT (w j:Nat):(2^w - 1).testBit j=decide (j<w):=Nat.testBit_two_pow_sub_one w j
theorem mG (n:Int):jh n<2^128:=by
 unfold jh
 have:=Nat.pow_le_pow_right (show 0<2 by decide) (nv n)
 have:=Nat.two_pow_pos (cG n)
 omega
theorem Bm {w:Nat} (h:w≤128):(2^128 - 1) >>> (128 - w)=2^w - 1:=by
 refine Nat.eq_of_testBit_eq fun j=>?_
 rw [Nat.testBit_shiftRight,lT,lT,decide_eq_decide];omega
def tt (w n:Int):Nat:=jh w ^^^ (2^(cG w - (min (max 0 n) (cG w)).toNat) - 1)
theorem G7 (w n:Int):tt w n<2^128:=by
 refine Nat.xor_lt_two_pow (mG w) ?_
 have h:(2^(cG w - (min (max 0 n) (cG w)).toNat))≤2^128:=Nat.pow_le_pow_right (by decide) (by have:=nv w;omega)
 have:=Nat.two_pow_pos (cG w - (min (max 0 n) (cG w)).toNat)
 omega
def fq (x y:Nat):Int:=if x=y then 0 else if x<y then -1 else 1
theorem GG {x y i:Nat} (hx:x.testBit i=false) (hy:y.testBit i=true) (h:∀ j,i<j→x.testBit j=y.testBit j):x<y:=by
 have e:x/2^(i+1)=y/2^(i+1):=by
  refine Nat.eq_of_testBit_eq fun j=>?_
  rw [Nat.testBit_div_two_pow,Nat.testBit_div_two_pow]
  exact h _ (by omega)
 have px:=Nat.two_pow_pos i
 have mx:x % 2^(i+1)<2^i:=by
  refine Nat.lt_pow_two_of_testBit _ fun j hj=>?_
  rw [Nat.testBit_mod_two_pow]
  by_cases hji:j=i
  ·subst hji;simp [hx]
  ·simp [show ¬ j<i+1 by omega]
 have my:2^i≤y % 2^(i+1):=Nat.ge_two_pow_of_testBit (by rw [Nat.testBit_mod_two_pow];simp [hy])
 have dx:=Nat.div_add_mod x (2^(i+1))
 have dy:=Nat.div_add_mod y (2^(i+1))
 rw [e] at dx
 omega
end Go.AL
