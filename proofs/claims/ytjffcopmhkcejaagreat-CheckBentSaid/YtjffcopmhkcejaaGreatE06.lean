/- Lemmas of the proof; no condition. -/
import Derived.Test.YtjffcopmhkcejaaGreatN05d
set_option linter.all false
set_option maxRecDepth 10000
open Go Go.AL
namespace Go.AL
def A6(c:UInt8):Bool:=decide (97≤c.toNat)&&decide (c.toNat≤122)
def Sn(c:UInt8):Bool:=A6 c||(decide (48≤c.toNat)&&decide (c.toNat≤57))||c==95
def UI:List (By):=[[38,38],[124,124],[45,62],[61,61],[33,61],[60,61],[62,61],[58,58],[40],[41],[33],[60],[62],[43],[45]]
def TW(l:List (By))(s:By):By:=match l with
 |[]=>[]
 |x::l=>if TB s x then x else TW l s
def Uc(s:By):By:=TW UI s
def Tl(s:By):By:=s.takeWhile Sn
abbrev Tok:=Nat × By × Nat
def UH(s:By):Option (Nat × By) :=
 match Tl s with
 |[]=>match Uc s with
  |[]=>none
  |x=>some (3,x)
 |c::w=>if A6 c then some (2,c::w)else if(lit (c::w)).isSome then some (1,c::w)else none
def DF:Nat→By→Nat→List Tok × Option Nat
 |0,_,_=>([],none)
 |_+1,[],_=>([],none)
 |f+1,c::r,k=>if c=32 then DF f r (k+1)else match UH (c::r)with
  |none=>([],some k)
  |some (kd,x)=>((kd,x,k)::(DF f ((c::r).drop x.length) (k+x.length)).1,(DF f ((c::r).drop x.length) (k+x.length)).2)
def rest(s:By)(k:Nat):List Tok × Option Nat:=DF s.length (s.drop k) k
def zI(s:By):List Tok × Nat × Nat:=if 400<s.length then([],0,3)else match rest s 0 with
 |(l,none)=>(l,0,0)
 |(_,some k)=>([],k,10)
end Go.AL
open Go Go.AL Go.Proofs
namespace Go.AL
end Go.AL
open Go Go.AL Go.Proofs
namespace Go.AL
theorem Ge:ti Tryz.prog 40=some ⟨.int .i64,1,8,.int .i64 0⟩:=krf
attribute [go_sem] Ge
def Ur(t:Tok):AV:=.agg [.int .i64 (t.1:Int),.str t.2.1,.int .i64 (t.2.2:Int)]
def T3(l:List Tok):Wz:=l.map Ur
def cJ{H Hc:AHeap}{i:Nat}{o:AObj}(h:H.Le Hc)(hi:H.nx≤i):H.Le (Hc.set i o):=⟨h.nx,fun j x hj=>by
 have:=glq hj
 rw[AHeap.get_set_ne _ _ (Xa)]
 exact h.get j x hj⟩
end Go.AL
open Go Go.AL Go.Proofs
namespace Go.AL
end Go.AL
open Go Go.AL Go.Proofs
namespace Go.AL
theorem H7:ti Tryz.prog 47=some ⟨.struct [(0,22,false),(1,3,false)],2,32,.agg [.slice .nil 1 [],.int .i64 0]⟩:=krf
attribute [go_sem] H7
def mod_lt{x n:Int}(hn:1≤n):0≤(x.tmod n+n).tmod n∧(x.tmod n+n).tmod n<n:=by
 have h1:=Int.lt_tmod_of_pos x (show 0<n by omega)
 rw[Int.tmod_eq_emod_of_nonneg (Xa)]
 exact⟨Int.emod_nonneg _ Xa,Int.emod_lt_of_pos _ Xa⟩
end Go.AL
