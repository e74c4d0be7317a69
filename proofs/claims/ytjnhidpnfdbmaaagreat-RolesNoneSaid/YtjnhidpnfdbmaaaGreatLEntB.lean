/- Lemmas of the proof; no condition. -/
import Derived.Test.YtjnhidpnfdbmaaaGreatLSch2
import Derived.Test.YtjnhidpnfdbmaaaGreatLSyn
set_option linter.all false
namespace Go.AL
structure SMatch where
 present:Bool
 value:Nat
 mask:Nat
 pfx:Int
 high:Nat
 deriving DecidableEq
structure SEntry where
 table:Int
 ms:List SMatch
 prio:Int
 act:Int
 args:List Nat
def bP (x:SMatch):List AV:=.bool x.present::(vc x.value++vc x.mask++[.int .i64 x.pfx]++vc x.high)
def aT (x:SMatch):AV:=.agg (bP x)
def aJ (x:SEntry):List AV:=[.int .i64 x.table,.slice .any 8 (x.ms.map aT),.int .i64 x.prio,.int .i64 x.act,.slice .any 2 (x.args.map vv)]
def eQ (x:SEntry):AV:=.agg (aJ x)
def g9:List SField→Int→Int
 |[],_=>0
 |f::fs,id=>if f.id=id then f.bits else g9 fs id
def cN (s:Sch) (id:Int):Int:=g9 s.fields id
def low (v:Nat) (w:Int):Nat:=if 128≤w then v else v % 2^w.toNat
def cC:SMatch:=⟨false,0,0,0,0⟩
def oP (b:List UInt8) (v:Nat):Nat:=cv b v 256 <<< 24 ||| cv b (v+1) 16 <<< 8 ||| cv b (v+2) 16
def p7 (b:List UInt8) (v:Nat) (w:Int):Int:=[w,8,16,1,1+ci b v w.toNat].getD (cv b (v+1) 5) 0
def lF (b:List UInt8) (v:Nat):Nat:=[255,15,1,12,cv b v 256].getD (cv b (v+1) 5) 0
def nH (x y:Nat) (w:Int):Nat:=min (x+y) (2^w.toNat - 1)
def nQ (w n:Int):Nat:=2^w.toNat - 2^(w - n).toNat
def cm (b:List UInt8) (v:Nat) (w kind:Int):SMatch × Nat :=
 let x:=low (oP b v) w
 if kind=2 then (if 0<cv b (v+3) 5 then (⟨true,x &&& nQ w (p7 b (v+4) w),0,p7 b (v+4) w,0⟩,v+6) else (cC,v+4))
 else if kind=3 then (if low (lF b (v+3)) w≠0 then (⟨true,x &&& low (lF b (v+3)) w,low (lF b (v+3)) w,0,0⟩,v+5) else (cC,v+5))
 else if kind=4 then (if 0<cv b (v+4) 5∧¬ (x=0∧nH x (cv b (v+3) 256) w=2^w.toNat - 1) then (⟨true,x,0,0,nH x (cv b (v+3) 256) w⟩,v+5) else (cC,v+5))
 else (⟨true,x,0,0,0⟩,v+3)
def cw (s:Sch) (b:List UInt8):List SKey→Nat→Int→(List SMatch × Int) × Nat
 |[],v,p=>(([],p),v)
 |k::ks,v,p =>
  let m:=cm b v (cN s k.field) k.kind
  let q:Int × Nat:=if k.kind=3∨k.kind=4 then (1+ci b m.2 5,m.2+1) else (p,m.2)
  let r:=cw s b ks q.2 q.1
  ((m.1::r.1.1,r.1.2),r.2)
def iV (b:List UInt8):List SParam→Nat→List Nat × Nat
 |[],v=>([],v)
 |p::ps,v=>(low (cv b v 256) p.bits::(iV b ps (v+1)).1,(iV b ps (v+1)).2)
def eT:List SAction→Int→SAction
 |[],_=>⟨0,[],[],[],[]⟩
 |a::ar,id=>if a.id=id then a else eT ar id
def pn:STable:=⟨0,[],[],[],0,[],0,[]⟩
def dD (s:Sch) (n:Int):STable:=s.tables.getD (n % (s.tables.length:Int)).toNat pn
def ir (s:Sch) (b:List UInt8) (v:Nat) (n:Int):SEntry × Nat :=
 let t:=dD s n
 let r:=cw s b t.keys v 0
 let act:=t.actions.getD (cv b r.2 t.actions.length) 0
 let g:=iV b (eT s.actions act).params (r.2+1)
 (⟨t.id,r.1.1,r.1.2,act,g.1⟩,g.2)
theorem I5 (a b c d:Nat) (h:b<2^64) (k:d<2^64):vOf a b &&& vOf c d=vOf (a &&& c) (b &&& d):=by
 refine Nat.eq_of_testBit_eq fun j=>?_
 rw [Nat.testBit_and,ln h,ln k,ln (Nat.and_lt_two_pow _ k)]
 split<;>rw [Nat.testBit_and]
theorem HY (a b c d:Nat) (h:b<2^64) (k:d<2^64):vOf a b ^^^ vOf c d=vOf (a ^^^ c) (b ^^^ d):=by
 refine Nat.eq_of_testBit_eq fun j=>?_
 rw [Nat.testBit_xor,ln h,ln k,ln (Nat.xor_lt_two_pow h k)]
 split<;>rw [Nat.testBit_xor]
theorem Ht {a b c d:Nat} (h:b<2^64) (k:d<2^64):vOf a b=vOf c d↔a=c∧b=d:=by
 unfold vOf;omega
theorem J4 {a b c d:Nat} (h:b<2^64) (k:d<2^64):vOf a b<vOf c d↔a<c∨a=c∧b<d:=by
 unfold vOf;omega
def cH (n:Int):Nat:=(min (max 0 n) 128).toNat
theorem nn (n:Int):cH n≤128:=by unfold cH;omega
def iX (n:Int):Nat:=2^cH n - 1
theorem lM (w j:Nat):(2^w - 1).testBit j=decide (j<w):=Nat.testBit_two_pow_sub_one w j
theorem mQ (n:Int):iX n<2^128:=by
 unfold iX
 have:=Nat.pow_le_pow_right (show 0<2 by decide) (nn n)
 have:=Nat.two_pow_pos (cH n)
 omega
theorem zR {w:Nat} (h:w≤128):(2^128 - 1) >>> (128 - w)=2^w - 1:=by
 refine Nat.eq_of_testBit_eq fun j=>?_
 rw [Nat.testBit_shiftRight,lM,lM,decide_eq_decide];omega
def ua (w n:Int):Nat:=iX w ^^^ (2^(cH w - (min (max 0 n) (cH w)).toNat) - 1)
theorem G7 (w n:Int):ua w n<2^128:=by
 refine Nat.xor_lt_two_pow (mQ w) ?_
 have h:(2^(cH w - (min (max 0 n) (cH w)).toNat))≤2^128:=Nat.pow_le_pow_right (by decide) (by have:=nn w;omega)
 have:=Nat.two_pow_pos (cH w - (min (max 0 n) (cH w)).toNat)
 omega
def Gq (x y:Nat):Int:=if x=y then 0 else if x<y then -1 else 1
end Go.AL
