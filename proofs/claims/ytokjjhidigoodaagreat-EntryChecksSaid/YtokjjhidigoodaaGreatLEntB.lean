/- Lemmas of the proof; no condition. -/
import Derived.Test.YtokjjhidigoodaaGreatLSch2
import Derived.Test.YtokjjhidigoodaaGreatLSyn
set_option linter.all false
namespace Go.AL
structure SMatch where
 present:Bool
 value:Nat
 mask:Nat
 pfx:Int
 high:Nat
 deriving DecidableEq
structure SEntry where
 table:Int
 ms:List SMatch
 prio:Int
 act:Int
 args:List Nat
def bE (x:SMatch):List AV:=.bool x.present::(vc x.value++vc x.mask++[.int .i64 x.pfx]++vc x.high)
def aQ (x:SMatch):AV:=.agg (bE x)
def bG (x:SEntry):List AV:=[.int .i64 x.table,.slice .any 8 (x.ms.map aQ),.int .i64 x.prio,.int .i64 x.act,.slice .any 2 (x.args.map vv)]
def cJ (x:SEntry):AV:=.agg (bG x)
def gR:List SField→Int→Int
 |[],_=>0
 |f::fs,id=>if f.id=id then f.bits else gR fs id
def cR (s:Sch) (id:Int):Int:=gR s.fields id
def low (v:Nat) (w:Int):Nat:=if 128≤w then v else v % 2^w.toNat
def cu:SMatch:=⟨false,0,0,0,0⟩
def sL (b:List UInt8) (v:Nat):Nat:=cv b v 256 <<< 24 ||| cv b (v+1) 16 <<< 8 ||| cv b (v+2) 16
def sX (b:List UInt8) (v:Nat) (w:Int):Int:=[w,8,16,1,1+ci b v w.toNat].getD (cv b (v+1) 5) 0
def nT (b:List UInt8) (v:Nat):Nat:=[255,15,1,12,cv b v 256].getD (cv b (v+1) 5) 0
def qo (x y:Nat) (w:Int):Nat:=min (x+y) (2^w.toNat - 1)
def qf (w n:Int):Nat:=2^w.toNat - 2^(w - n).toNat
def cN (b:List UInt8) (v:Nat) (w kind:Int):SMatch × Nat :=
 let x:=low (sL b v) w
 if kind=2 then (if 0<cv b (v+3) 5 then (⟨true,x &&& qf w (sX b (v+4) w),0,sX b (v+4) w,0⟩,v+6) else (cu,v+4))
 else if kind=3 then (if low (nT b (v+3)) w≠0 then (⟨true,x &&& low (nT b (v+3)) w,low (nT b (v+3)) w,0,0⟩,v+5) else (cu,v+5))
 else if kind=4 then (if 0<cv b (v+4) 5∧¬ (x=0∧qo x (cv b (v+3) 256) w=2^w.toNat - 1) then (⟨true,x,0,0,qo x (cv b (v+3) 256) w⟩,v+5) else (cu,v+5))
 else (⟨true,x,0,0,0⟩,v+3)
def cX (s:Sch) (b:List UInt8):List SKey→Nat→Int→(List SMatch × Int) × Nat
 |[],v,p=>(([],p),v)
 |k::ks,v,p =>
  let m:=cN b v (cR s k.field) k.kind
  let q:Int × Nat:=if k.kind=3∨k.kind=4 then (1+ci b m.2 5,m.2+1) else (p,m.2)
  let r:=cX s b ks q.2 q.1
  ((m.1::r.1.1,r.1.2),r.2)
def kz (b:List UInt8):List SParam→Nat→List Nat × Nat
 |[],v=>([],v)
 |p::ps,v=>(low (cv b v 256) p.bits::(kz b ps (v+1)).1,(kz b ps (v+1)).2)
def gm:List SAction→Int→SAction
 |[],_=>⟨0,[],[],[],[]⟩
 |a::ar,id=>if a.id=id then a else gm ar id
def sm:STable:=⟨0,[],[],[],0,[],0,[]⟩
def fM (s:Sch) (n:Int):STable:=s.tables.getD (n % (s.tables.length:Int)).toNat sm
def kC (s:Sch) (b:List UInt8) (v:Nat) (n:Int):SEntry × Nat :=
 let t:=fM s n
 let r:=cX s b t.keys v 0
 let act:=t.actions.getD (cv b r.2 t.actions.length) 0
 let g:=kz b (gm s.actions act).params (r.2+1)
 (⟨t.id,r.1.1,r.1.2,act,g.1⟩,g.2)
def bfn (f:Nat→Bool):List AV:=(List.range 128).map fun j=>.bool (f j)
theorem KX (v:Nat):bits v=bfn v.testBit:=rfl
theorem AA (f:Nat→Bool):(bfn f).length=128:=by simp [bfn]
theorem mP {f g:Nat→Bool} (h:∀ j,j<128→f j=g j):bfn f=bfn g:=by
 unfold bfn
 refine List.map_congr_left fun j hj=>?_
 rw [h j (List.mem_range.1 hj)]
theorem Cy {f:Nat→Bool} {v:Nat} (h:∀ j,j<128→f j=v.testBit j):bfn f=bits v:=mP h
theorem z4 {f g:Nat→Bool} {i:Nat} {b:Bool} (h:∀ j,j<128→g j=if j=i then b else f j):(bfn f).set i (.bool b)=bfn g:=by
 apply List.ext_getElem
 ·simp [bfn]
 ·intro j h1 h2
  have hj:j<128:=by simpa [bfn] using h2
  rw [List.getElem_set]
  simp only [bfn,List.getElem_map,List.getElem_range,h j hj]
  by_cases e:i=j
  ·subst e;simp
  ·rw [if_neg e,if_neg (fun x=>e x.symm)]
theorem MA (f:Nat→Bool) (i:Nat) (h:i<128):(bfn f).getD i .junk=.bool (f i):=by
 simp [bfn,gEq,h]
theorem ET:List.replicate 128 (AV.bool false)=bfn fun _=>false:=by
 apply List.ext_getElem
 ·simp [bfn]
 ·intro j h1 h2;rw [List.getElem_replicate];simp only [bfn,List.getElem_map]
theorem L9 (a b c d:Nat) (h:b<2^64) (k:d<2^64):vOf a b &&& vOf c d=vOf (a &&& c) (b &&& d):=by
 refine Nat.eq_of_testBit_eq fun j=>?_
 rw [Nat.testBit_and,jt h,jt k,jt (Nat.and_lt_two_pow _ k)]
 split<;>rw [Nat.testBit_and]
theorem Mm (a b c d:Nat) (h:b<2^64) (k:d<2^64):vOf a b ^^^ vOf c d=vOf (a ^^^ c) (b ^^^ d):=by
 refine Nat.eq_of_testBit_eq fun j=>?_
 rw [Nat.testBit_xor,jt h,jt k,jt (Nat.xor_lt_two_pow h k)]
 split<;>rw [Nat.testBit_xor]
theorem Mc {a b c d:Nat} (h:b<2^64) (k:d<2^64):vOf a b=vOf c d↔a=c∧b=d:=by
 unfold vOf;omega
theorem NL {a b c d:Nat} (h:b<2^64) (k:d<2^64):vOf a b<vOf c d↔a<c∨a=c∧b<d:=by
 unfold vOf;omega
def ca (n:Int):Nat:=(min (max 0 n) 128).toNat
theorem jW (n:Int):ca n≤128:=by unfold ca;omega
def eT (n:Int):Nat:=2^ca n - 1
theorem iK (w j:Nat):(2^w - 1).testBit j=decide (j<w):=Nat.testBit_two_pow_sub_one w j
theorem xU (n:Int) (j:Nat):(eT n).testBit j=decide (j<ca n):=iK _ _
theorem ka (n:Int):eT n<2^128:=by
 unfold eT
 have:=Nat.pow_le_pow_right (show 0<2 by decide) (jW n)
 have:=Nat.two_pow_pos (ca n)
 omega
theorem Ej {w:Nat} (h:w≤128):(2^128 - 1) >>> (128 - w)=2^w - 1:=by
 refine Nat.eq_of_testBit_eq fun j=>?_
 rw [Nat.testBit_shiftRight,iK,iK,decide_eq_decide];omega
def jm (w n:Int):Nat:=eT w ^^^ (2^(ca w - (min (max 0 n) (ca w)).toNat) - 1)
theorem Gp (w n:Int) (j:Nat):(jm w n).testBit j=decide (j<ca w∧((ca w:Nat):Int) - n≤(j:Int)):=by
 unfold jm
 rw [Nat.testBit_xor,xU,iK]
 have hc:=jW w
 rw [Bool.eq_iff_iff]
 simp
 by_cases h1:j<ca w<;>by_cases h2:j<ca w - (min (max 0 n) ((ca w:Nat):Int)).toNat<;>simp [h1,h2]<;>omega
theorem sn (w n:Int):jm w n<2^128:=by
 refine Nat.xor_lt_two_pow (ka w) ?_
 have h:(2^(ca w - (min (max 0 n) (ca w)).toNat))≤2^128:=Nat.pow_le_pow_right (by decide) (by have:=jW w;omega)
 have:=Nat.two_pow_pos (ca w - (min (max 0 n) (ca w)).toNat)
 omega
def sk (x y:Nat):Int:=if x=y then 0 else if x<y then -1 else 1
theorem Kz {x y i:Nat} (hx:x.testBit i=false) (hy:y.testBit i=true) (h:∀ j,i<j→x.testBit j=y.testBit j):x<y:=by
 have e:x/2^(i+1)=y/2^(i+1):=by
  refine Nat.eq_of_testBit_eq fun j=>?_
  rw [Nat.testBit_div_two_pow,Nat.testBit_div_two_pow]
  exact h _ (by omega)
 have px:=Nat.two_pow_pos i
 have mx:x % 2^(i+1)<2^i:=by
  refine Nat.lt_pow_two_of_testBit _ fun j hj=>?_
  rw [Nat.testBit_mod_two_pow]
  by_cases hji:j=i
  ·subst hji;simp [hx]
  ·simp [show ¬ j<i+1 by omega]
 have my:2^i≤y % 2^(i+1):=Nat.ge_two_pow_of_testBit (by rw [Nat.testBit_mod_two_pow];simp [hy])
 have dx:=Nat.div_add_mod x (2^(i+1))
 have dy:=Nat.div_add_mod y (2^(i+1))
 rw [e] at dx
 omega
end Go.AL
