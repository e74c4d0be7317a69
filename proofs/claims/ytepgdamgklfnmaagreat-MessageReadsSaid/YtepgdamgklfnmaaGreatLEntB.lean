/- Contracts and plain laws, a part of the proof; no condition of its own. -/
import Derived.Test.YtepgdamgklfnmaaGreatLSch2
import Derived.Test.YtepgdamgklfnmaaGreatLBits
/- Entries and points as data, and those that a list of choices gives. No program. -/
namespace Go.AL
set_option linter.all false
structure SMatch where
  present:Bool
  value:Nat
  mask:Nat
  pfx:Int
  high:Nat
  deriving DecidableEq
structure SEntry where
  table:Int
  ms:List SMatch
  prio:Int
  act:Int
  args:List Nat
def matchC (x:SMatch):List AV:=.bool x.present::(vc x.value++vc x.mask++[.int .i64 x.pfx]++vc x.high)
def matchAV (x:SMatch):AV:=.agg (matchC x)
def entryC (x:SEntry):List AV:=[.int .i64 x.table,.slice .any 8 (x.ms.map matchAV),.int .i64 x.prio,.int .i64 x.act,.slice .any 2 (x.args.map vv)]
def entryAV (x:SEntry):AV:=.agg (entryC x)
/-- the bits of a field -/
def bitsL:List SField→Int→Int
  | [],_=>0
  | f::fs,id=>if f.id=id then f.bits else bitsL fs id
def bitsF (s:Sch) (id:Int):Int:=bitsL s.fields id
/-- the lowest bits -/
def low (v:Nat) (w:Int):Nat:=if 128≤w then v else v % 2^w.toNat
def noMatch:SMatch:=⟨false,0,0,0,0⟩
def gNum (b:List UInt8) (v:Nat):Nat:=cv b v 256 <<< 24 ||| cv b (v+1) 16 <<< 8 ||| cv b (v+2) 16
def gPfx (b:List UInt8) (v:Nat) (w:Int):Int:=[w,8,16,1,1+ci b v w.toNat].getD (cv b (v+1) 5) 0
def gMask (b:List UInt8) (v:Nat):Nat:=[255,15,1,12,cv b v 256].getD (cv b (v+1) 5) 0
def gHigh (x y:Nat) (w:Int):Nat:=min (x+y) (2^w.toNat - 1)
def maskN (w n:Int):Nat:=2^w.toNat - 2^(w - n).toNat
/-- a match for a key of so many bits -/
def gMatch (b:List UInt8) (v:Nat) (w kind:Int):SMatch × Nat :=
  let x:=low (gNum b v) w
  if kind=2 then (if 0<cv b (v+3) 5 then (⟨true,x &&& maskN w (gPfx b (v+4) w),0,gPfx b (v+4) w,0⟩,v+6) else (noMatch,v+4))
  else if kind=3 then (if low (gMask b (v+3)) w≠0 then (⟨true,x &&& low (gMask b (v+3)) w,low (gMask b (v+3)) w,0,0⟩,v+5) else (noMatch,v+5))
  else if kind=4 then (if 0<cv b (v+4) 5∧¬ (x=0∧gHigh x (cv b (v+3) 256) w=2^w.toNat - 1) then (⟨true,x,0,0,gHigh x (cv b (v+3) 256) w⟩,v+5) else (noMatch,v+5))
  else (⟨true,x,0,0,0⟩,v+3)
/-- the matches for some keys, and the priority -/
def gMatches (s:Sch) (b:List UInt8):List SKey→Nat→Int→(List SMatch × Int) × Nat
  | [],v,p=>(([],p),v)
  | k::ks,v,p =>
    let m:=gMatch b v (bitsF s k.field) k.kind
    let q:Int × Nat:=if k.kind=3∨k.kind=4 then (1+ci b m.2 5,m.2+1) else (p,m.2)
    let r:=gMatches s b ks q.2 q.1
    ((m.1::r.1.1,r.1.2),r.2)
def gArgs (b:List UInt8):List SParam→Nat→List Nat × Nat
  | [],v=>([],v)
  | p::ps,v=>(low (cv b v 256) p.bits::(gArgs b ps (v+1)).1,(gArgs b ps (v+1)).2)
def actionL:List SAction→Int→SAction
  | [],_=>⟨0,[],[],[],[]⟩
  | a::as,id=>if a.id=id then a else actionL as id
def noTable:STable:=⟨0,[],[],[],0,[],0,[]⟩
def tableAt (s:Sch) (n:Int):STable:=s.tables.getD (n % (s.tables.length:Int)).toNat noTable
/-- an entry of the table at a place -/
def gEntry (s:Sch) (b:List UInt8) (v:Nat) (n:Int):SEntry × Nat :=
  let t:=tableAt s n
  let r:=gMatches s b t.keys v 0
  let act:=t.actions.getD (cv b r.2 t.actions.length) 0
  let g:=gArgs b (actionL s.actions act).params (r.2+1)
  (⟨t.id,r.1.1,r.1.2,act,g.1⟩,g.2)
end Go.AL


/- Plain laws of bits: combinations of values, ones, comparisons. No program. -/
namespace Go.AL
set_option linter.all false
/-- the comparison of two numbers -/
def cmpN (x y:Nat):Int:=if x=y then 0 else if x<y then -1 else 1
/-- two numbers that are equal above a bit at which they differ -/
theorem top_lt {x y i:Nat} (hx:x.testBit i=false) (hy:y.testBit i=true) (h:∀ j,i<j→x.testBit j=y.testBit j):x<y:=by
  have e:x/2^(i+1)=y/2^(i+1):=by
    refine Nat.eq_of_testBit_eq fun j=>?_
    rw [Nat.testBit_div_two_pow,Nat.testBit_div_two_pow]
    exact h _ (by omega)
  have px:=Nat.two_pow_pos i
  have mx:x % 2^(i+1)<2^i:=by
    refine Nat.lt_pow_two_of_testBit _ fun j hj=>?_
    rw [Nat.testBit_mod_two_pow]
    by_cases hji:j=i
    · subst hji;simp [hx]
    · simp [show ¬ j<i+1 by omega]
  have my:2^i≤y % 2^(i+1):=Nat.ge_two_pow_of_testBit (by rw [Nat.testBit_mod_two_pow];simp [hy])
  have dx:=Nat.div_add_mod x (2^(i+1))
  have dy:=Nat.div_add_mod y (2^(i+1))
  rw [e] at dx
  omega
end Go.AL

