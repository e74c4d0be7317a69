/- Contracts and plain laws, a part of the proof; no condition of its own. -/
import Derived.Test.YtiiiljghmilepaaN05d
/- Plain laws of tokens; the texts of literals are given as a function. -/
open Go Go.AL
namespace Go.AL
set_option linter.all false
def cK (c:UInt8):Bool:=decide (97≤c.toNat)&&decide (c.toNat≤122)
def dl (c:UInt8):Bool:=cK c||(decide (48≤c.toNat)&&decide (c.toNat≤57))||c==95
def syms:List (List UInt8):=[[38,38],[124,124],[45,62],[61,61],[33,61],[60,61],[62,61],[58,58],[40],[41],[33],[60],[62],[43],[45]]
/-- the symbol that begins a text -/
def kH (l:List (List UInt8)) (s:List UInt8):List UInt8:=match l with
 |[]=>[]
 |x::l=>if fX s x then x else kH l s
def iu (s:List UInt8):List UInt8:=kH syms s
/-- the word that begins a text -/
def bM (s:List UInt8):List UInt8:=s.takeWhile dl
abbrev Tok:=Nat × List UInt8 × Nat
/-- kind and text of the token that begins a text -/
def fu (s:List UInt8):Option (Nat × List UInt8) :=
 match bM s with
 |[]=>match iu s with
  |[]=>none
  |x=>some (3,x)
 |c::w=>if cK c then some (2,c::w) else if (lit (c::w)).isSome then some (1,c::w) else none
/-- the tokens up to the end, or up to the first error and its index -/
def dZ:Nat→List UInt8→Nat→List Tok × Option Nat
 |0,_,_=>([],none)
 |_+1,[],_=>([],none)
 |f+1,c::r,k=>if c=32 then dZ f r (k+1) else match fu (c::r) with
  |none=>([],some k)
  |some (kd,x)=>((kd,x,k)::(dZ f ((c::r).drop x.length) (k+x.length)).1,(dZ f ((c::r).drop x.length) (k+x.length)).2)
theorem p6 {s:List UInt8}:∀ {l:List (List UInt8)},(∀ x∈l,x≠[])→kH l s≠[]→kH l s∈l∧fX s (kH l s)=true
 |[],_,h=>absurd rfl h
 |x::l,hl,h=>by
  unfold kH at h ⊢
  by_cases hx:fX s x=true
  ·rw [if_pos hx];exact ⟨List.mem_cons_self,hx⟩
  ·rw [if_neg hx] at h ⊢
   obtain ⟨h1,h2⟩:=p6 (fun y hy=>hl y (List.mem_cons_of_mem _ hy)) h
   exact ⟨List.mem_cons_of_mem _ h1,h2⟩
theorem tW:∀ x∈syms,x≠[]:=by decide
theorem tm {s p:List UInt8} (h:fX s p=true):p.length≤s.length∧s.take p.length=p:=by
 have h2:=eq_of_beq h
 have:=congrArg List.length h2
 rw [List.length_take] at this
 exact ⟨by omega,h2⟩
theorem gu {p:UInt8→Bool}:∀ (s:List UInt8),s.take (s.takeWhile p).length=s.takeWhile p
 |[]=>rfl
 |c::s=>by
  by_cases h:p c=true
  ·rw [List.takeWhile_cons_of_pos h,List.length_cons,List.take_succ_cons,gu s]
  ·rw [List.takeWhile_cons_of_neg h];rfl
/-- a token's text is what it is cut out of, and is not empty -/
theorem gG {s:List UInt8} {kd:Nat} {x:List UInt8} (h:fu s=some (kd,x)):x≠[]∧x.length≤s.length∧s.take x.length=x:=by
 unfold fu at h
 split at h
 ·split at h
  ·cases h
  ·rename_i y hy
   injection h with h
   injection h with h1 h2
   subst h2
   obtain ⟨_,h4⟩:=p6 tW (s:=s) hy
   exact ⟨hy,tm h4⟩
 ·rename_i c w hw
  have hx:x=c::w:=by
   split at h
   ·injection h with h;injection h with h1 h2;exact h2.symm
   ·split at h
    ·injection h with h;injection h with h1 h2;exact h2.symm
    ·cases h
  subst hx
  refine ⟨by simp,?_,?_⟩
  ·rw [← hw];exact (List.takeWhile_sublist _).length_le
  ·rw [← hw];exact gu s
theorem fE:∀ (f g:Nat) (s:List UInt8) (k:Nat),s.length≤f→s.length≤g→dZ f s k=dZ g s k
 |0,0,_,_,_,_=>rfl
 |0,g+1,s,k,h,_=>by
  have:s=[]:=List.eq_nil_of_length_eq_zero (by omega)
  subst this;rfl
 |f+1,0,s,k,_,h=>by
  have:s=[]:=List.eq_nil_of_length_eq_zero (by omega)
  subst this;rfl
 |f+1,g+1,[],k,_,_=>rfl
 |f+1,g+1,c::r,k,h1,h2=>by
  simp only [List.length_cons] at h1 h2
  unfold dZ
  split
  ·exact fE f g r (k+1) (by omega) (by omega)
  ·split
   ·rfl
   ·rename_i kd x hx
    obtain ⟨h3,h4,_⟩:=gG hx
    have h5:0<x.length:=List.length_pos_iff.2 h3
    have e:=fE f g ((c::r).drop x.length) (k+x.length) (by rw [List.length_drop,List.length_cons];omega) (by rw [List.length_drop,List.length_cons];omega)
    rw [e]
/-- the tokens of what lies behind place k -/
def rest (s:List UInt8) (k:Nat):List Tok × Option Nat:=dZ s.length (s.drop k) k
theorem sv {s:List UInt8} {k:Nat} (h:s.length≤k):rest s k=([],none):=by
 unfold rest
 rw [List.drop_eq_nil_of_le h]
 cases s.length<;>rfl
theorem oL {s:List UInt8} {k:Nat} (h:k<s.length) (h2:s[k]=32):rest s k=rest s (k+1):=by
 unfold rest
 obtain ⟨f,hf⟩:∃ f,s.length=f+1:=⟨s.length - 1,by omega⟩
 rw [List.drop_eq_getElem_cons h,h2]
 rw [hf]
 show dZ (f+1) (32::s.drop (k+1)) k=_
 rw [dZ,if_pos rfl]
 exact fE _ _ _ _ (by rw [List.length_drop];omega) (by rw [List.length_drop];omega)
theorem ns {s:List UInt8} {k:Nat} (h:k<s.length) (h2:s[k]≠32) (h3:fu (s.drop k)=none):rest s k=([],some k):=by
 unfold rest
 obtain ⟨f,hf⟩:∃ f,s.length=f+1:=⟨s.length - 1,by omega⟩
 rw [List.drop_eq_getElem_cons h] at h3 ⊢
 rw [hf]
 rw [dZ,if_neg h2,h3]
theorem sl {s:List UInt8} {k kd:Nat} {x:List UInt8} (h:k<s.length) (h2:s[k]≠32) (h3:fu (s.drop k)=some (kd,x)) :
 rest s k=((kd,x,k)::(rest s (k+x.length)).1,(rest s (k+x.length)).2):=by
 obtain ⟨g1,g2,_⟩:=gG h3
 have g3:0<x.length:=List.length_pos_iff.2 g1
 rw [List.length_drop] at g2
 unfold rest
 obtain ⟨f,hf⟩:∃ f,s.length=f+1:=⟨s.length - 1,by omega⟩
 have e:dZ f ((s.drop k).drop x.length) (k+x.length)=dZ s.length (s.drop (k+x.length)) (k+x.length):=by
  rw [List.drop_drop]
  exact fE _ _ _ _ (by rw [List.length_drop];omega) (by rw [List.length_drop];omega)
 rw [← e,hf]
 rw [List.drop_eq_getElem_cons h] at h3 ⊢
 rw [dZ,if_neg h2,h3]
/-- all tokens, index and error of a text -/
def bd (s:List UInt8):List Tok × Nat × Nat:=if 400<s.length then ([],0,3) else match rest s 0 with
 |(l,none)=>(l,0,0)
 |(_,some k)=>([],k,10)
end Go.AL
