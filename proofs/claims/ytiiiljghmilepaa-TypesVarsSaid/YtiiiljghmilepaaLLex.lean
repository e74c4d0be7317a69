/- Contracts and plain laws, a part of the proof; no condition of its own. -/
import Derived.Test.YtiiiljghmilepaaN05d
/- Plain laws of tokens; the texts of literals are given as a function. -/
open Go Go.AL
namespace Go.AL
set_option linter.all false
def dh (c:UInt8):Bool:=decide (97≤c.toNat)&&decide (c.toNat≤122)
def ea (c:UInt8):Bool:=dh c||(decide (48≤c.toNat)&&decide (c.toNat≤57))||c==95
def syms:List (List UInt8):=[[38,38],[124,124],[45,62],[61,61],[33,61],[60,61],[62,61],[58,58],[40],[41],[33],[60],[62],[43],[45]]
/-- the symbol that begins a text -/
def mv (l:List (List UInt8)) (s:List UInt8):List UInt8:=match l with
 |[]=>[]
 |x::l=>if iv s x then x else mv l s
def jQ (s:List UInt8):List UInt8:=mv syms s
/-- the word that begins a text -/
def b8 (s:List UInt8):List UInt8:=s.takeWhile ea
abbrev Tok:=Nat × List UInt8 × Nat
/-- kind and text of the token that begins a text -/
def gI (s:List UInt8):Option (Nat × List UInt8) :=
 match b8 s with
 |[]=>match jQ s with
  |[]=>none
  |x=>some (3,x)
 |c::w=>if dh c then some (2,c::w) else if (lit (c::w)).isSome then some (1,c::w) else none
/-- the tokens up to the end, or up to the first error and its index -/
def eV:Nat→List UInt8→Nat→List Tok × Option Nat
 |0,_,_=>([],none)
 |_+1,[],_=>([],none)
 |f+1,c::r,k=>if c=32 then eV f r (k+1) else match gI (c::r) with
  |none=>([],some k)
  |some (kd,x)=>((kd,x,k)::(eV f ((c::r).drop x.length) (k+x.length)).1,(eV f ((c::r).drop x.length) (k+x.length)).2)
theorem rV {s:List UInt8}:∀ {l:List (List UInt8)},(∀ x∈l,x≠[])→mv l s≠[]→mv l s∈l∧iv s (mv l s)=true
 |[],_,h=>absurd rfl h
 |x::l,hl,h=>by
  unfold mv at h ⊢
  by_cases hx:iv s x=true
  ·rw [if_pos hx];exact ⟨List.mem_cons_self,hx⟩
  ·rw [if_neg hx] at h ⊢
   obtain ⟨h1,h2⟩:=rV (fun y hy=>hl y (List.mem_cons_of_mem _ hy)) h
   exact ⟨List.mem_cons_of_mem _ h1,h2⟩
theorem wS:∀ x∈syms,x≠[]:=by decide
theorem tY {s p:List UInt8} (h:iv s p=true):p.length≤s.length∧s.take p.length=p:=by
 have h2:=eq_of_beq h
 have:=congrArg List.length h2
 rw [List.length_take] at this
 exact ⟨by omega,h2⟩
theorem iw {p:UInt8→Bool}:∀ (s:List UInt8),s.take (s.takeWhile p).length=s.takeWhile p
 |[]=>rfl
 |c::s=>by
  by_cases h:p c=true
  ·rw [List.takeWhile_cons_of_pos h,List.length_cons,List.take_succ_cons,iw s]
  ·rw [List.takeWhile_cons_of_neg h];rfl
/-- a token's text is what it is cut out of, and is not empty -/
theorem iJ {s:List UInt8} {kd:Nat} {x:List UInt8} (h:gI s=some (kd,x)):x≠[]∧x.length≤s.length∧s.take x.length=x:=by
 unfold gI at h
 split at h
 ·split at h
  ·cases h
  ·rename_i y hy
   injection h with h
   injection h with h1 h2
   subst h2
   obtain ⟨_,h4⟩:=rV wS (s:=s) hy
   exact ⟨hy,tY h4⟩
 ·rename_i c w hw
  have hx:x=c::w:=by
   split at h
   ·injection h with h;injection h with h1 h2;exact h2.symm
   ·split at h
    ·injection h with h;injection h with h1 h2;exact h2.symm
    ·cases h
  subst hx
  refine ⟨by simp,?_,?_⟩
  ·rw [← hw];exact (List.takeWhile_sublist _).length_le
  ·rw [← hw];exact iw s
theorem gx:∀ (f g:Nat) (s:List UInt8) (k:Nat),s.length≤f→s.length≤g→eV f s k=eV g s k
 |0,0,_,_,_,_=>rfl
 |0,g+1,s,k,h,_=>by
  have:s=[]:=List.eq_nil_of_length_eq_zero (by omega)
  subst this;rfl
 |f+1,0,s,k,_,h=>by
  have:s=[]:=List.eq_nil_of_length_eq_zero (by omega)
  subst this;rfl
 |f+1,g+1,[],k,_,_=>rfl
 |f+1,g+1,c::r,k,h1,h2=>by
  simp only [List.length_cons] at h1 h2
  unfold eV
  split
  ·exact gx f g r (k+1) (by omega) (by omega)
  ·split
   ·rfl
   ·rename_i kd x hx
    obtain ⟨h3,h4,_⟩:=iJ hx
    have h5:0<x.length:=List.length_pos_iff.2 h3
    have e:=gx f g ((c::r).drop x.length) (k+x.length) (by rw [List.length_drop,List.length_cons];omega) (by rw [List.length_drop,List.length_cons];omega)
    rw [e]
/-- the tokens of what lies behind place k -/
def rest (s:List UInt8) (k:Nat):List Tok × Option Nat:=eV s.length (s.drop k) k
theorem wc {s:List UInt8} {k:Nat} (h:s.length≤k):rest s k=([],none):=by
 unfold rest
 rw [List.drop_eq_nil_of_le h]
 cases s.length<;>rfl
theorem qu {s:List UInt8} {k:Nat} (h:k<s.length) (h2:s[k]=32):rest s k=rest s (k+1):=by
 unfold rest
 obtain ⟨f,hf⟩:∃ f,s.length=f+1:=⟨s.length - 1,by omega⟩
 rw [List.drop_eq_getElem_cons h,h2]
 rw [hf]
 show eV (f+1) (32::s.drop (k+1)) k=_
 rw [eV,if_pos rfl]
 exact gx _ _ _ _ (by rw [List.length_drop];omega) (by rw [List.length_drop];omega)
theorem pZ {s:List UInt8} {k:Nat} (h:k<s.length) (h2:s[k]≠32) (h3:gI (s.drop k)=none):rest s k=([],some k):=by
 unfold rest
 obtain ⟨f,hf⟩:∃ f,s.length=f+1:=⟨s.length - 1,by omega⟩
 rw [List.drop_eq_getElem_cons h] at h3 ⊢
 rw [hf]
 rw [eV,if_neg h2,h3]
theorem ub {s:List UInt8} {k kd:Nat} {x:List UInt8} (h:k<s.length) (h2:s[k]≠32) (h3:gI (s.drop k)=some (kd,x)) :
 rest s k=((kd,x,k)::(rest s (k+x.length)).1,(rest s (k+x.length)).2):=by
 obtain ⟨g1,g2,_⟩:=iJ h3
 have g3:0<x.length:=List.length_pos_iff.2 g1
 rw [List.length_drop] at g2
 unfold rest
 obtain ⟨f,hf⟩:∃ f,s.length=f+1:=⟨s.length - 1,by omega⟩
 have e:eV f ((s.drop k).drop x.length) (k+x.length)=eV s.length (s.drop (k+x.length)) (k+x.length):=by
  rw [List.drop_drop]
  exact gx _ _ _ _ (by rw [List.length_drop];omega) (by rw [List.length_drop];omega)
 rw [← e,hf]
 rw [List.drop_eq_getElem_cons h] at h3 ⊢
 rw [eV,if_neg h2,h3]
/-- all tokens, index and error of a text -/
def bz (s:List UInt8):List Tok × Nat × Nat:=if 400<s.length then ([],0,3) else match rest s 0 with
 |(l,none)=>(l,0,0)
 |(_,some k)=>([],k,10)
end Go.AL
