/- Contracts and plain laws, a part of the proof; no condition of its own. -/
import Derived.Test.YtokjjhidigoodaaGreatLSch2
import Derived.Test.YtokjjhidigoodaaGreatLSyn
/- Entries and points as data, and those that a list of choices gives. No program. -/
namespace Go.AL
set_option linter.all false
structure SMatch where
 present:Bool
 value:Nat
 mask:Nat
 pfx:Int
 high:Nat
 deriving DecidableEq
structure SEntry where
 table:Int
 ms:List SMatch
 prio:Int
 act:Int
 args:List Nat
def ea (x:SMatch):List AV:=.bool x.present::(vc x.value++vc x.mask++[.int .i64 x.pfx]++vc x.high)
def bu (x:SMatch):AV:=.agg (ea x)
def eA (x:SEntry):List AV:=[.int .i64 x.table,.slice .any 8 (x.ms.map bu),.int .i64 x.prio,.int .i64 x.act,.slice .any 2 (x.args.map vv)]
def cW (x:SEntry):AV:=.agg (eA x)
/-- the bits of a field -/
def gh:List SField→Int→Int
 |[],_=>0
 |f::fs,id=>if f.id=id then f.bits else gh fs id
def eD (s:Sch) (id:Int):Int:=gh s.fields id
/-- the lowest bits -/
def low (v:Nat) (w:Int):Nat:=if 128≤w then v else v % 2^w.toNat
def cS:SMatch:=⟨false,0,0,0,0⟩
def qq (b:List UInt8) (v:Nat):Nat:=cv b v 256 <<< 24 ||| cv b (v+1) 16 <<< 8 ||| cv b (v+2) 16
def q0 (b:List UInt8) (v:Nat) (w:Int):Int:=[w,8,16,1,1+ci b v w.toNat].getD (cv b (v+1) 5) 0
def mg (b:List UInt8) (v:Nat):Nat:=[255,15,1,12,cv b v 256].getD (cv b (v+1) 5) 0
def n9 (x y:Nat) (w:Int):Nat:=min (x+y) (2^w.toNat - 1)
def oa (w n:Int):Nat:=2^w.toNat - 2^(w - n).toNat
/-- a match for a key of so many bits -/
def cA (b:List UInt8) (v:Nat) (w kind:Int):SMatch × Nat :=
 let x:=low (qq b v) w
 if kind=2 then (if 0<cv b (v+3) 5 then (⟨true,x &&& oa w (q0 b (v+4) w),0,q0 b (v+4) w,0⟩,v+6) else (cS,v+4))
 else if kind=3 then (if low (mg b (v+3)) w≠0 then (⟨true,x &&& low (mg b (v+3)) w,low (mg b (v+3)) w,0,0⟩,v+5) else (cS,v+5))
 else if kind=4 then (if 0<cv b (v+4) 5∧¬ (x=0∧n9 x (cv b (v+3) 256) w=2^w.toNat - 1) then (⟨true,x,0,0,n9 x (cv b (v+3) 256) w⟩,v+5) else (cS,v+5))
 else (⟨true,x,0,0,0⟩,v+3)
/-- the matches for some keys, and the priority -/
def cJ (s:Sch) (b:List UInt8):List SKey→Nat→Int→(List SMatch × Int) × Nat
 |[],v,p=>(([],p),v)
 |k::ks,v,p =>
  let m:=cA b v (eD s k.field) k.kind
  let q:Int × Nat:=if k.kind=3∨k.kind=4 then (1+ci b m.2 5,m.2+1) else (p,m.2)
  let r:=cJ s b ks q.2 q.1
  ((m.1::r.1.1,r.1.2),r.2)
def jd (b:List UInt8):List SParam→Nat→List Nat × Nat
 |[],v=>([],v)
 |p::ps,v=>(low (cv b v 256) p.bits::(jd b ps (v+1)).1,(jd b ps (v+1)).2)
def fu:List SAction→Int→SAction
 |[],_=>⟨0,[],[],[],[]⟩
 |a::ar,id=>if a.id=id then a else fu ar id
def IW:STable:=⟨0,[],[],[],0,[],0,[]⟩
def eO (s:Sch) (n:Int):STable:=s.tables.getD (n % (s.tables.length:Int)).toNat IW
/-- an entry of the table at a place -/
def fe (s:Sch) (b:List UInt8) (v:Nat) (n:Int):SEntry × Nat :=
 let t:=eO s n
 let r:=cJ s b t.keys v 0
 let act:=t.actions.getD (cv b r.2 t.actions.length) 0
 let g:=jd b (fu s.actions act).params (r.2+1)
 (⟨t.id,r.1.1,r.1.2,act,g.1⟩,g.2)
end Go.AL
/- Plain laws of bits: combinations of values, ones, comparisons. No program. -/
namespace Go.AL
set_option linter.all false
/-- 128 truth values -/
def bfn (f:Nat→Bool):List AV:=(List.range 128).map fun j=>.bool (f j)
theorem JH (f:Nat→Bool):(bfn f).length=128:=by simp [bfn]
theorem vZ {f g:Nat→Bool} (h:∀ j,j<128→f j=g j):bfn f=bfn g:=by
 unfold bfn
 refine List.map_congr_left fun j hj=>?_
 rw [h j (List.mem_range.1 hj)]
theorem FV {f:Nat→Bool} {v:Nat} (h:∀ j,j<128→f j=v.testBit j):bfn f=bits v:=vZ h
theorem Io {f g:Nat→Bool} {i:Nat} {b:Bool} (h:∀ j,j<128→g j=if j=i then b else f j):(bfn f).set i (.bool b)=bfn g:=by
 apply List.ext_getElem
 ·simp [bfn]
 ·intro j h1 h2
  have hj:j<128:=by simpa [bfn] using h2
  rw [List.getElem_set]
  simp only [bfn,List.getElem_map,List.getElem_range,h j hj]
  by_cases e:i=j
  ·subst e;simp
  ·rw [if_neg e,if_neg (fun x=>e x.symm)]
theorem HT:List.replicate 128 (AV.bool false)=bfn fun _=>false:=by
 apply List.ext_getElem
 ·simp [bfn]
 ·intro j h1 h2;rw [List.getElem_replicate];simp only [bfn,List.getElem_map]
/-- a number of bits of a value -/
def fy (n:Int):Nat:=(min (max 0 n) 128).toNat
theorem qA (n:Int):fy n≤128:=by unfold fy;omega
/-- the first n bits -/
def kh (n:Int):Nat:=2^fy n - 1
theorem jy (w j:Nat):(2^w - 1).testBit j=decide (j<w):=Nat.testBit_two_pow_sub_one w j
theorem C4 (n:Int) (j:Nat):(kh n).testBit j=decide (j<fy n):=jy _ _
theorem zr (n:Int):kh n<2^128:=by
 unfold kh
 have:=Nat.pow_le_pow_right (show 0<2 by decide) (qA n)
 have:=Nat.two_pow_pos (fy n)
 omega
theorem Ag {w:Nat} (h:w≤128):(2^128 - 1) >>> (128 - w)=2^w - 1:=by
 refine Nat.eq_of_testBit_eq fun j=>?_
 rw [Nat.testBit_shiftRight,jy,jy,decide_eq_decide];omega
end Go.AL
