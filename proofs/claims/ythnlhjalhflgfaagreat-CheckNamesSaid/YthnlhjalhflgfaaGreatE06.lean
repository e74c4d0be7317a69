/- Lemmas of the proof; no condition. -/
import Derived.Test.YthnlhjalhflgfaaGreatN05d
set_option linter.all false
set_option maxRecDepth 10000
open Go Go.AL
namespace Go.AL
def vW (c:UInt8):Bool:=decide (97≤c.toNat)&&decide (c.toNat≤122)
def MM (c:UInt8):Bool:=vW c||(decide (48≤c.toNat)&&decide (c.toNat≤57))||c==95
def OR:List (List UInt8):=[[38,38],[124,124],[45,62],[61,61],[33,61],[60,61],[62,61],[58,58],[40],[41],[33],[60],[62],[43],[45]]
def NT (l:List (List UInt8)) (s:List UInt8):List UInt8:=match l with
 |[]=>[]
 |x::l=>if NN s x then x else NT l s
def NX (s:List UInt8):List UInt8:=NT OR s
def ME (s:List UInt8):List UInt8:=s.takeWhile MM
abbrev Tok:=Nat × List UInt8 × Nat
def OJ (s:List UInt8):Option (Nat × List UInt8) :=
 match ME s with
 |[]=>match NX s with
  |[]=>none
  |x=>some (3,x)
 |c::w=>if vW c then some (2,c::w) else if (lit (c::w)).isSome then some (1,c::w) else none
def zP:Nat→List UInt8→Nat→List Tok × Option Nat
 |0,_,_=>([],none)
 |_+1,[],_=>([],none)
 |f+1,c::r,k=>if c=32 then zP f r (k+1) else match OJ (c::r) with
  |none=>([],some k)
  |some (kd,x)=>((kd,x,k)::(zP f ((c::r).drop x.length) (k+x.length)).1,(zP f ((c::r).drop x.length) (k+x.length)).2)
def rest (s:List UInt8) (k:Nat):List Tok × Option Nat:=zP s.length (s.drop k) k
def uM (s:List UInt8):List Tok × Nat × Nat:=if 400<s.length then ([],0,3) else match rest s 0 with
 |(l,none)=>(l,0,0)
 |(_,some k)=>([],k,10)
end Go.AL
open Go Go.AL Go.Proofs
namespace Go.AL
end Go.AL
open Go Go.AL Go.Proofs
namespace Go.AL
theorem A8:ti Tryz.prog 40=some ⟨.int .i64,1,8,.int .i64 0⟩:=by kernel_rfl
attribute [go_sem] A8
def Ot (t:Tok):AV:=.agg [.int .i64 (t.1:Int),.str t.2.1,.int .i64 (t.2.2:Int)]
def Oh (l:List Tok):List AV:=l.map Ot
theorem dT {H Hc:AHeap} {i:Nat} {o:AObj} (h:H.Le Hc) (hi:H.nx≤i):H.Le (Hc.set i o):=⟨h.nx,fun j x hj=>by
 have:=glq hj
 rw [AHeap.get_set_ne _ _ (by omega)]
 exact h.get j x hj⟩
end Go.AL
open Go Go.AL Go.Proofs
namespace Go.AL
end Go.AL
open Go Go.AL Go.Proofs
namespace Go.AL
theorem Fu:ti Tryz.prog 67=some ⟨.struct [(0,22,false),(1,3,false)],2,32,.agg [.slice .nil 1 [],.int .i64 0]⟩:=by kernel_rfl
attribute [go_sem] Fu
theorem mod_lt {x n:Int} (hn:1≤n):0≤(x.tmod n+n).tmod n∧(x.tmod n+n).tmod n<n:=by
 have h1:=Int.lt_tmod_of_pos x (show 0<n by omega)
 rw [Int.tmod_eq_emod_of_nonneg (by omega)]
 exact ⟨Int.emod_nonneg _ (by omega),Int.emod_lt_of_pos _ (by omega)⟩
end Go.AL
