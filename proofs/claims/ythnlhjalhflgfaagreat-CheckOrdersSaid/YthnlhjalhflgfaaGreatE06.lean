/- Lemmas of the proof; no condition. -/
import Derived.Test.YthnlhjalhflgfaaGreatN05d
set_option linter.all false
set_option maxRecDepth 10000
open Go Go.AL
namespace Go.AL
def Ac (c:UInt8):Bool:=decide (97≤c.toNat)&&decide (c.toNat≤122)
def Qe (c:UInt8):Bool:=Ac c||(decide (48≤c.toNat)&&decide (c.toNat≤57))||c==95
def RX:List (List UInt8):=[[38,38],[124,124],[45,62],[61,61],[33,61],[60,61],[62,61],[58,58],[40],[41],[33],[60],[62],[43],[45]]
def Rj (l:List (List UInt8)) (s:List UInt8):List UInt8:=match l with
 |[]=>[]
 |x::l=>if RB s x then x else Rj l s
def Rx (s:List UInt8):List UInt8:=Rj RX s
def QQ (s:List UInt8):List UInt8:=s.takeWhile Qe
abbrev Tok:=Nat × List UInt8 × Nat
def Sb (s:List UInt8):Option (Nat × List UInt8) :=
 match QQ s with
 |[]=>match Rx s with
  |[]=>none
  |x=>some (3,x)
 |c::w=>if Ac c then some (2,c::w) else if (lit (c::w)).isSome then some (1,c::w) else none
def Dj:Nat→List UInt8→Nat→List Tok × Option Nat
 |0,_,_=>([],none)
 |_+1,[],_=>([],none)
 |f+1,c::r,k=>if c=32 then Dj f r (k+1) else match Sb (c::r) with
  |none=>([],some k)
  |some (kd,x)=>((kd,x,k)::(Dj f ((c::r).drop x.length) (k+x.length)).1,(Dj f ((c::r).drop x.length) (k+x.length)).2)
def rest (s:List UInt8) (k:Nat):List Tok × Option Nat:=Dj s.length (s.drop k) k
def yl (s:List UInt8):List Tok × Nat × Nat:=if 400<s.length then ([],0,3) else match rest s 0 with
 |(l,none)=>(l,0,0)
 |(_,some k)=>([],k,10)
end Go.AL
open Go Go.AL Go.Proofs
namespace Go.AL
end Go.AL
open Go Go.AL Go.Proofs
namespace Go.AL
theorem EV:ti Tryz.prog 40=some ⟨.int .i64,1,8,.int .i64 0⟩:=krf
attribute [go_sem] EV
def Sp (t:Tok):AV:=.agg [.int .i64 (t.1:Int),.str t.2.1,.int .i64 (t.2.2:Int)]
def RO (l:List Tok):List AV:=l.map Sp
theorem cB {H Hc:AHeap} {i:Nat} {o:AObj} (h:H.Le Hc) (hi:H.nx≤i):H.Le (Hc.set i o):=⟨h.nx,fun j x hj=>by
 have:=glq hj
 rw [AHeap.get_set_ne _ _ (by omega)]
 exact h.get j x hj⟩
end Go.AL
open Go Go.AL Go.Proofs
namespace Go.AL
end Go.AL
open Go Go.AL Go.Proofs
namespace Go.AL
theorem Ge:ti Tryz.prog 67=some ⟨.struct [(0,22,false),(1,3,false)],2,32,.agg [.slice .nil 1 [],.int .i64 0]⟩:=krf
attribute [go_sem] Ge
theorem mod_lt {x n:Int} (hn:1≤n):0≤(x.tmod n+n).tmod n∧(x.tmod n+n).tmod n<n:=by
 have h1:=Int.lt_tmod_of_pos x (show 0<n by omega)
 rw [Int.tmod_eq_emod_of_nonneg (by omega)]
 exact ⟨Int.emod_nonneg _ (by omega),Int.emod_lt_of_pos _ (by omega)⟩
end Go.AL
