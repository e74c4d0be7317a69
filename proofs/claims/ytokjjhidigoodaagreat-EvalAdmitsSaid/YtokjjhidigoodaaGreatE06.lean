/- Contracts and plain laws, a part of the proof; no condition of its own. -/
import Derived.Test.YtokjjhidigoodaaGreatN05d
set_option maxHeartbeats 32000000
open List renaming length_cons → yaz, take_succ_cons → yaq, drop_eq_nil_of_le → ybf, length_nil → yba, take_of_length_le → ybc, drop_append → ybd, take_append → ybe, append_nil → yaj
/- Plain laws of tokens; the texts of literals are given as a function. -/
open Go Go.AL
namespace Go.AL
set_option linter.all false
def dn (c:UInt8):Bool:=decide (97≤c.toNat)&&decide (c.toNat≤122)
def dm (c:UInt8):Bool:=dn c||(decide (48≤c.toNat)&&decide (c.toNat≤57))||c==95
def syms:List (List UInt8):=[[38,38],[124,124],[45,62],[61,61],[33,61],[60,61],[62,61],[58,58],[40],[41],[33],[60],[62],[43],[45]]
/-- the symbol that begins a text -/
def tp (l:List (List UInt8)) (s:List UInt8):List UInt8:=match l with
 |[]=>[]
 |x::l=>if iD s x then x else tp l s
def jW (s:List UInt8):List UInt8:=tp syms s
/-- the word that begins a text -/
def c7 (s:List UInt8):List UInt8:=s.takeWhile dm
abbrev Tok:=Nat × List UInt8 × Nat
/-- kind and text of the token that begins a text -/
def lq (s:List UInt8):Option (Nat × List UInt8) :=
 match c7 s with
 |[]=>match jW s with
  |[]=>none
  |x=>some (3,x)
 |c::w=>if dn c then some (2,c::w) else if (lit (c::w)).isSome then some (1,c::w) else none
/-- the tokens up to the end, or up to the first error and its index -/
def jC:Nat→List UInt8→Nat→List Tok × Option Nat
 |0,_,_=>([],none)
 |_+1,[],_=>([],none)
 |f+1,c::r,k=>if c=32 then jC f r (k+1) else match lq (c::r) with
  |none=>([],some k)
  |some (kd,x)=>((kd,x,k)::(jC f ((c::r).drop x.length) (k+x.length)).1,(jC f ((c::r).drop x.length) (k+x.length)).2)
theorem BW {s:List UInt8}:∀ {l:List (List UInt8)},(∀ x∈l,x≠[])→tp l s≠[]→tp l s∈l∧iD s (tp l s)=true
 |[],_,h=>absurd rfl h
 |x::l,hl,h=>by
  unfold tp at h ⊢
  by_cases hx:iD s x=true
  ·rw [if_pos hx];exact ⟨List.mem_cons_self,hx⟩
  ·rw [if_neg hx] at h ⊢
   obtain ⟨h1,h2⟩:=BW (fun y hy=>hl y (List.mem_cons_of_mem _ hy)) h
   exact ⟨List.mem_cons_of_mem _ h1,h2⟩
theorem HN:∀ x∈syms,x≠[]:=by decide
theorem uA {s p:List UInt8} (h:iD s p=true):p.length≤s.length∧s.take p.length=p:=by
 have h2:=eq_of_beq h
 have:=congrArg List.length h2
 rw [List.length_take] at this
 exact ⟨by omega,h2⟩
theorem jZ {p:UInt8→Bool}:∀ (s:List UInt8),s.take (s.takeWhile p).length=s.takeWhile p
 |[]=>rfl
 |c::s=>by
  by_cases h:p c=true
  ·rw [List.takeWhile_cons_of_pos h,yaz,yaq,jZ s]
  ·rw [List.takeWhile_cons_of_neg h];rfl
/-- a token's text is what it is cut out of, and is not empty -/
theorem ln {s:List UInt8} {kd:Nat} {x:List UInt8} (h:lq s=some (kd,x)):x≠[]∧x.length≤s.length∧s.take x.length=x:=by
 unfold lq at h
 split at h
 ·split at h
  ·cases h
  ·rename_i y hy
   injection h with h
   injection h with h1 h2
   subst h2
   obtain ⟨_,h4⟩:=BW HN (s:=s) hy
   exact ⟨hy,uA h4⟩
 ·rename_i c w hw
  have hx:x=c::w:=by
   split at h
   ·injection h with h;injection h with h1 h2;exact h2.symm
   ·split at h
    ·injection h with h;injection h with h1 h2;exact h2.symm
    ·cases h
  subst hx
  refine ⟨by simp,?_,?_⟩
  ·rw [← hw];exact (List.takeWhile_sublist _).length_le
  ·rw [← hw];exact jZ s
theorem lM:∀ (f g:Nat) (s:List UInt8) (k:Nat),s.length≤f→s.length≤g→jC f s k=jC g s k
 |0,0,_,_,_,_=>rfl
 |0,g+1,s,k,h,_=>by
  have:s=[]:=List.eq_nil_of_length_eq_zero (by omega)
  subst this;rfl
 |f+1,0,s,k,_,h=>by
  have:s=[]:=List.eq_nil_of_length_eq_zero (by omega)
  subst this;rfl
 |f+1,g+1,[],k,_,_=>rfl
 |f+1,g+1,c::r,k,h1,h2=>by
  simp only [yaz] at h1 h2
  unfold jC
  split
  ·exact lM f g r (k+1) (by omega) (by omega)
  ·split
   ·rfl
   ·rename_i kd x hx
    obtain ⟨h3,h4,_⟩:=ln hx
    have h5:0<x.length:=List.length_pos_iff.2 h3
    have e:=lM f g ((c::r).drop x.length) (k+x.length) (by rw [List.length_drop,yaz];omega) (by rw [List.length_drop,yaz];omega)
    rw [e]
/-- the tokens of what lies behind place k -/
def rest (s:List UInt8) (k:Nat):List Tok × Option Nat:=jC s.length (s.drop k) k
theorem yx {s:List UInt8} {k:Nat} (h:s.length≤k):rest s k=([],none):=by
 unfold rest
 rw [ybf h]
 cases s.length<;>rfl
theorem ut {s:List UInt8} {k:Nat} (h:k<s.length) (h2:s[k]=32):rest s k=rest s (k+1):=by
 unfold rest
 obtain ⟨f,hf⟩:∃ f,s.length=f+1:=⟨s.length - 1,by omega⟩
 rw [List.drop_eq_getElem_cons h,h2]
 rw [hf]
 show jC (f+1) (32::s.drop (k+1)) k=_
 rw [jC,if_pos rfl]
 exact lM _ _ _ _ (by rw [List.length_drop];omega) (by rw [List.length_drop];omega)
theorem mX {s:List UInt8} {k:Nat} (h:k<s.length) (h2:s[k]≠32) (h3:lq (s.drop k)=none):rest s k=([],some k):=by
 unfold rest
 obtain ⟨f,hf⟩:∃ f,s.length=f+1:=⟨s.length - 1,by omega⟩
 rw [List.drop_eq_getElem_cons h] at h3 ⊢
 rw [hf]
 rw [jC,if_neg h2,h3]
theorem F0 {s:List UInt8} {k kd:Nat} {x:List UInt8} (h:k<s.length) (h2:s[k]≠32) (h3:lq (s.drop k)=some (kd,x)) :
 rest s k=((kd,x,k)::(rest s (k+x.length)).1,(rest s (k+x.length)).2):=by
 obtain ⟨g1,g2,_⟩:=ln h3
 have g3:0<x.length:=List.length_pos_iff.2 g1
 rw [List.length_drop] at g2
 unfold rest
 obtain ⟨f,hf⟩:∃ f,s.length=f+1:=⟨s.length - 1,by omega⟩
 have e:jC f ((s.drop k).drop x.length) (k+x.length)=jC s.length (s.drop (k+x.length)) (k+x.length):=by
  rw [List.drop_drop]
  exact lM _ _ _ _ (by rw [List.length_drop];omega) (by rw [List.length_drop];omega)
 rw [← e,hf]
 rw [List.drop_eq_getElem_cons h] at h3 ⊢
 rw [jC,if_neg h2,h3]
/-- all tokens, index and error of a text -/
def bZ (s:List UInt8):List Tok × Nat × Nat:=if 400<s.length then ([],0,3) else match rest s 0 with
 |(l,none)=>(l,0,0)
 |(_,some k)=>([],k,10)
end Go.AL
open Go Go.AL Go.Proofs
namespace Go.AL
set_option linter.all false
set_option maxRecDepth 10000
def jt:List AV→AHeap→(AV→Prop)→Prop
 |[x],_,K=>∃ c,x=bL c∧K (.int .i64 (dg c:Nat))
 |_,_,_=>False
theorem EH:EntOk Tryz.prog 466 (Ent.pure jt):=by
 refine EntOk.pure fun args H K h=>?_
 unfold jt at h
 split at h
 rotate_left
 ·exact h.elim
 obtain ⟨c,rfl,hK⟩:=h
 refine ⟨_,hK,?_⟩
 clear hK
 refine ACalls.fW aB TblOk.nil Tryz.func466 [.tmp 2] (Nat.le_refl _) (T:=aA []) (h:=fun hcl hlt=>?_)
 clear hlt
 have hc:c.toNat<256:=UInt8.toNat_lt c
 have w8:∀ x,IntKind.u8.wrap x=x % 256:=fun x=>by simp [IntKind.wrap,IntKind.signed,IntKind.bits]
 simp only [go_sem,bL]
 refine bD (fun h1=>?_) (fun h1=>?_)
 ·refine aq (fun h2=>?_) (fun h2=>?_)
  ·have hd:dg c=c.toNat - 48:=by unfold dg;rw [if_pos (by simp at h1 h2;omega)]
   have e:IntKind.i64.wrap (IntKind.u8.wrap ((c.toNat:Int) - 48))=(dg c:Nat):=by
    rw [w8,hd];simp at h1 h2;rw [wrap_i64]<;>omega
   simp only [go_sem,e]
   exact Z0
  ·simp only [go_sem]
   refine bD (fun h3=>?_) (fun h3=>?_)
   ·refine aq (fun h4=>?_) (fun h4=>?_)
    ·have hd:dg c=c.toNat - 87:=by unfold dg;simp at h1 h2 h3 h4;rw [if_neg (by omega),if_pos (by omega)]
     have e:IntKind.i64.wrap (IntKind.i64.wrap (IntKind.u8.wrap ((c.toNat:Int) - 97))+10)=(dg c:Nat):=by
      rw [w8,hd];simp at h1 h2 h3 h4
      have e1:IntKind.i64.wrap (((c.toNat:Int) - 97) % 256)=(c.toNat:Int) - 97:=by rw [wrap_i64]<;>omega
      rw [e1,wrap_i64]<;>omega
     simp only [go_sem,e]
     exact Z0
    ·have hd:dg c=99:=by unfold dg;simp at h1 h2 h3 h4;rw [if_neg (by omega),if_neg (by omega)]
     simp only [go_sem,hd]
     exact Z0
   ·have hd:dg c=99:=by unfold dg;simp at h1 h2 h3;rw [if_neg (by omega),if_neg (by omega)]
    try simp only [go_sem,zau,hd]
    exact Z0
 ·try simp only [go_sem,zau]
  refine bD (fun h3=>?_) (fun h3=>?_)
  ·refine aq (fun h4=>?_) (fun h4=>?_)
   ·simp at h1 h3;omega
   ·have hd:dg c=99:=by unfold dg;simp at h1 h3 h4;rw [if_neg (by omega),if_neg (by omega)]
    simp only [go_sem,hd]
    exact Z0
  ·have hd:dg c=99:=by unfold dg;simp at h1 h3;rw [if_neg (by omega),if_neg (by omega)]
   try simp only [go_sem,zau,hd]
   exact Z0
def oX (o:Option Nat):AV:=match o with
 |some n=>.tup [zAV n,.bool true]
 |none=>.tup [zAV 0,.bool false]
theorem FR {s:List UInt8} (h:¬ (2<s.length∧iD s [48,120]=true)):lit s=if s=[] then none else eL 10 0 s:=by
 unfold lit
 by_cases hp:iD s [48,120]=true
 ·rw [if_pos hp]
  have hl:s.length=2:=by
   have:=congrArg List.length (eq_of_beq hp)
   rw [List.length_take] at this
   simp at this
   have:¬ 2<s.length:=fun h2=>h ⟨h2,hp⟩
   omega
  have hs:s=[48,120]:=by
   have:=eq_of_beq hp
   rwa [ybc (by simp;omega)] at this
  subst hs
  decide +kernel
 ·rw [if_neg hp]
def oQ:List AV→AHeap→(AV→Prop)→Prop
 |[.str s],_,K=>(s.length≤140737488355328)∧K (oX (lit s))
 |_,_,_=>False
theorem yS:EntOk Tryz.prog 410 (Ent.pure oQ):=by
 refine EntOk.pure fun args H K h=>?_
 unfold oQ at h
 split at h
 rotate_left
 ·exact h.elim
 rename_i s
 obtain ⟨hl,hK⟩:=h
 refine ⟨_,hK,?_⟩
 refine ACalls.fW aB (TblOk.cons A8 (TblOk.cons EH (TblOk.cons sD (TblOk.cons GI TblOk.nil)))) Tryz.func410 [.cell 2 454,.tmp 3] (Nat.le_refl _) (T:=aA [(15,[[],[],[],[],[],[4],[0,4,5],[0,4,5,6]])]) (h:=fun hcl hlt=>?_)
 clear hlt hK
 simp only [go_sem,eX,hZ]
 refine bD (fun h1=>?_) (fun h1=>?_)
 ·have hl2:2<s.length:=by simp at h1;omega
  refine ⟨by omega,aq (fun h0=>?_) (fun h0=>?_)⟩
  ·have hp:iD s [48,120]=true:=by unfold iD;simpa using h0
   have hr:lit s=if s.drop 2=[] then none else eL 16 0 (s.drop 2):=by unfold lit;rw [if_pos hp]
   try simp only [go_sem,eX,hZ,Int.toNat_natCast,List.take_length]
   refine ⟨by omega,by omega,?_⟩
   have hl':(s.drop 2).length≤140737488355328:=by rw [List.length_drop];omega
   rw [hr]
   clear hr hl
   generalize s.drop 2=b at *
   refine ay (A:=Nat × Nat) (fun x=>[(0,.str b),(2,.ptr H.nx 0),(4,.int .i64 16),(5,.ptr (H.nx+1) 0),(6,.int .i64 (x.1:Int))])
    (fun x=>(H.push (.cells [.bool false,.slice .nil 1 []])).push (.cells [.bool (decide ((x.2:Int)<0)),.slice .any 1 (cB (cq ((x.2:Int)).natAbs))]))
    (fun x=>x.1≤b.length∧x.2<2^128∧eL 16 0 b=eL 16 x.2 (b.drop x.1)) (fun x=>b.length - x.1) (0,0) ⟨by omega,by decide,rfl⟩ ?_ fun x hI=>?_
   ·exact Z10
   obtain ⟨k,n⟩:=x
   obtain ⟨hk,hn,hl2⟩:=hI
   dsimp only at *
   simp only [go_sem,byq]
   refine aq (fun h2=>?_) (fun h2=>?_)
   ·have h2':k<b.length:=by simpa using h2
    rw [List.drop_eq_getElem_cons h2'] at hl2
    have hg:AV.int .u8 ((b.getD k 0).toNat:Int)=bL b[k]:=by simp [List.getD_eq_getElem?_getD,h2',bL]
    have e5:IntKind.i64.wrap ((k:Int)+1)=((k+1:Nat):Int):=by rw [wrap_i64]<;>omega
    have hbn:b≠[]:=by intro h;subst h;simp at h2'
    simp only [eL] at hl2
    generalize b[k]=c at *
    have hc:dg c≤99:=by unfold dg;have:=UInt8.toNat_lt c;split<;>(try split)<;>omega
    simp only [go_sem,byq,hg,jt,eX,hZ]
    refine ⟨by omega,c,rfl,?_⟩
    simp only [go_sem,byq]
    refine aq (fun h3=>?_) (fun h3=>?_)
    ·have hd:¬ dg c<16:=by simp at h3;omega
     rw [if_neg hd] at hl2
     simp only [go_sem,byq,eX,hZ,hl2,if_neg hbn,oX]
     refine ⟨by omega,?_⟩
     exact Z0
    ·have hd:dg c<16:=by simp at h3;omega
     rw [if_pos hd] at hl2
     simp only [go_sem,byq,eX,hZ]
     refine ⟨by omega,?_⟩
     refine ay (A:=Nat) (fun j=>[(0,.str b),(2,.ptr H.nx 0),(4,.int .i64 16),(5,.ptr (H.nx+1) 0),(6,.int .i64 (k:Int)),(7,.ptr (H.nx+1+1) 0),(8,.int .i64 (j:Int))])
      (fun j=>((H.push (.cells [.bool false,.slice .nil 1 []])).push (.cells [.bool (decide ((n:Int)<0)),.slice .any 1 (cB (cq ((n:Int)).natAbs))])).push (.cells [.bool (decide (((n*j:Nat):Int)<0)),.slice .any 1 (cB (cq (((n*j:Nat):Int)).natAbs))]))
      (fun j=>j≤16) (fun j=>16 - j) 0 (by omega) ?_ fun j hj=>?_
     ·exact Z11
     have hnj:n*j<2^133:=by
      have:n*j≤n*16:=Nat.mul_le_mul_left n (by omega)
      omega
     have hsj:ep ((n*j:Nat):Int):=eC 60 (by rw [Int.natAbs_natCast];omega) (by decide)
     have hsn:ep (n:Int):=eC 60 (by rw [Int.natAbs_natCast];omega) (by decide)
     simp only [go_sem,byq]
     refine aq (fun h4=>?_) (fun h4=>?_)
     ·have h4':j<16:=by simp at h4;omega
      have ej:IntKind.i64.wrap ((j:Int)+1)=((j+1:Nat):Int):=by rw [wrap_i64]<;>omega
      have en:((n*j:Nat):Int)+(n:Int)=((n*(j+1):Nat):Int):=by rw [Nat.mul_add];omega
      simp only [go_sem,byq,iB]
      refine ⟨((n*j:Nat):Int),(n:Int),⟨rfl,rfl,hsj,hsn⟩,?_⟩
      simp only [go_sem,byq,zAV,en,ej]
      refine ⟨j+1,by omega,by omega,?_⟩
      exact Z1
     ·have h4':j=16:=by simp at h4;omega
      subst h4'
      have en:((n*16:Nat):Int)+((dg c:Nat):Int)=((n*16+dg c:Nat):Int):=by omega
      have hsd:ep ((dg c:Nat):Int):=eC 10 (by rw [Int.natAbs_natCast];omega) (by decide)
      have hsf:ep ((n*16+dg c:Nat):Int):=eC 60 (by rw [Int.natAbs_natCast];omega) (by decide)
      obtain ⟨z,hz2⟩:∃ z:Int,z=((n*16+dg c:Nat):Int):=⟨_,rfl⟩
      rw [← hz2] at en hsf
      obtain ⟨y,hy⟩:∃ y:Int,y=((dg c:Nat):Int):=⟨_,rfl⟩
      simp only [go_sem,byq,iB,jt,eX,hg]
      refine ⟨by omega,c,rfl,?_⟩
      simp only [go_sem,byq,eX,iB]
      refine ⟨by omega,((n*16:Nat):Int),((dg c:Nat):Int),⟨rfl,rfl,hsj,hsd⟩,?_⟩
      refine kg (a:=n*16+dg c) (b:=2^128) (fun hf=>?_) (fun hf=>?_)
      ·rw [if_pos hf] at hl2
       have hft:decide (0≤z∧z<2^128)=true:=decide_eq_true (by omega)
       simp only [go_sem,byq,zAV,en,kE]
       refine ⟨z,⟨rfl,hsf⟩,?_⟩
       simp only [go_sem,byq,zau,hft,e5]
       refine ⟨(k+1,n*16+dg c),⟨by omega,hf,hl2⟩,by omega,?_⟩
       exact Z9
      ·rw [if_neg (Nat.not_lt.2 hf)] at hl2
       have hft:decide (0≤z∧z<2^128)=false:=decide_eq_false (by omega)
       simp only [go_sem,byq,zAV,en,kE]
       refine ⟨z,⟨rfl,hsf⟩,?_⟩
       simp only [go_sem,byq,zat,hft,eX,hZ,hl2,if_neg hbn,oX]
       refine ⟨by omega,?_⟩
       exact Z0
   ·have h2':k=b.length:=by simp at h2;omega
    subst h2'
    rw [List.drop_length] at hl2
    simp only [eL] at hl2
    simp only [go_sem,byq]
    by_cases hbn:b=[]
    ·subst hbn
     have hn0:n=0:=by simp only [eL] at hl2;exact (Option.some.inj hl2).symm
     subst hn0
     have hb0:(([]:List UInt8)==[])=true:=rfl
     simp only [go_sem,byq,if_pos,oX,hZ,hb0]
     exact Z12
    ·have hb0:(b==[])=false:=by simp [hbn]
     simp only [go_sem,byq,if_neg hbn,oX,hl2,zAV,hb0]
     exact Z0
  ·have hr:lit s=if s=[] then none else eL 10 0 s:=FR fun h=>by
    have:iD s [48,120]=false:=by unfold iD;simpa using h0
    rw [this] at h;exact absurd h.2 (by simp)
   try simp only [go_sem,eX,hZ,Int.toNat_natCast,List.take_length,zau]
   refine ⟨by omega,?_⟩
   have hl':(s).length≤140737488355328:=by exact hl
   rw [hr]
   clear hr hl
   generalize s=b at *
   refine ay (A:=Nat × Nat) (fun x=>[(0,.str b),(2,.ptr H.nx 0),(4,.int .i64 10),(5,.ptr (H.nx+1) 0),(6,.int .i64 (x.1:Int))])
    (fun x=>(H.push (.cells [.bool false,.slice .nil 1 []])).push (.cells [.bool (decide ((x.2:Int)<0)),.slice .any 1 (cB (cq ((x.2:Int)).natAbs))]))
    (fun x=>x.1≤b.length∧x.2<2^128∧eL 10 0 b=eL 10 x.2 (b.drop x.1)) (fun x=>b.length - x.1) (0,0) ⟨by omega,by decide,rfl⟩ ?_ fun x hI=>?_
   ·exact Z10
   obtain ⟨k,n⟩:=x
   obtain ⟨hk,hn,hl2⟩:=hI
   dsimp only at *
   simp only [go_sem,byq]
   refine aq (fun h2=>?_) (fun h2=>?_)
   ·have h2':k<b.length:=by simpa using h2
    rw [List.drop_eq_getElem_cons h2'] at hl2
    have hg:AV.int .u8 ((b.getD k 0).toNat:Int)=bL b[k]:=by simp [List.getD_eq_getElem?_getD,h2',bL]
    have e5:IntKind.i64.wrap ((k:Int)+1)=((k+1:Nat):Int):=by rw [wrap_i64]<;>omega
    have hbn:b≠[]:=by intro h;subst h;simp at h2'
    simp only [eL] at hl2
    generalize b[k]=c at *
    have hc:dg c≤99:=by unfold dg;have:=UInt8.toNat_lt c;split<;>(try split)<;>omega
    simp only [go_sem,byq,hg,jt,eX,hZ]
    refine ⟨by omega,c,rfl,?_⟩
    simp only [go_sem,byq]
    refine aq (fun h3=>?_) (fun h3=>?_)
    ·have hd:¬ dg c<10:=by simp at h3;omega
     rw [if_neg hd] at hl2
     simp only [go_sem,byq,eX,hZ,hl2,if_neg hbn,oX]
     refine ⟨by omega,?_⟩
     exact Z0
    ·have hd:dg c<10:=by simp at h3;omega
     rw [if_pos hd] at hl2
     simp only [go_sem,byq,eX,hZ]
     refine ⟨by omega,?_⟩
     refine ay (A:=Nat) (fun j=>[(0,.str b),(2,.ptr H.nx 0),(4,.int .i64 10),(5,.ptr (H.nx+1) 0),(6,.int .i64 (k:Int)),(7,.ptr (H.nx+1+1) 0),(8,.int .i64 (j:Int))])
      (fun j=>((H.push (.cells [.bool false,.slice .nil 1 []])).push (.cells [.bool (decide ((n:Int)<0)),.slice .any 1 (cB (cq ((n:Int)).natAbs))])).push (.cells [.bool (decide (((n*j:Nat):Int)<0)),.slice .any 1 (cB (cq (((n*j:Nat):Int)).natAbs))]))
      (fun j=>j≤10) (fun j=>10 - j) 0 (by omega) ?_ fun j hj=>?_
     ·exact Z11
     have hnj:n*j<2^133:=by
      have:n*j≤n*16:=Nat.mul_le_mul_left n (by omega)
      omega
     have hsj:ep ((n*j:Nat):Int):=eC 60 (by rw [Int.natAbs_natCast];omega) (by decide)
     have hsn:ep (n:Int):=eC 60 (by rw [Int.natAbs_natCast];omega) (by decide)
     simp only [go_sem,byq]
     refine aq (fun h4=>?_) (fun h4=>?_)
     ·have h4':j<10:=by simp at h4;omega
      have ej:IntKind.i64.wrap ((j:Int)+1)=((j+1:Nat):Int):=by rw [wrap_i64]<;>omega
      have en:((n*j:Nat):Int)+(n:Int)=((n*(j+1):Nat):Int):=by rw [Nat.mul_add];omega
      simp only [go_sem,byq,iB]
      refine ⟨((n*j:Nat):Int),(n:Int),⟨rfl,rfl,hsj,hsn⟩,?_⟩
      simp only [go_sem,byq,zAV,en,ej]
      refine ⟨j+1,by omega,by omega,?_⟩
      exact Z1
     ·have h4':j=10:=by simp at h4;omega
      subst h4'
      have en:((n*10:Nat):Int)+((dg c:Nat):Int)=((n*10+dg c:Nat):Int):=by omega
      have hsd:ep ((dg c:Nat):Int):=eC 10 (by rw [Int.natAbs_natCast];omega) (by decide)
      have hsf:ep ((n*10+dg c:Nat):Int):=eC 60 (by rw [Int.natAbs_natCast];omega) (by decide)
      obtain ⟨z,hz2⟩:∃ z:Int,z=((n*10+dg c:Nat):Int):=⟨_,rfl⟩
      rw [← hz2] at en hsf
      obtain ⟨y,hy⟩:∃ y:Int,y=((dg c:Nat):Int):=⟨_,rfl⟩
      simp only [go_sem,byq,iB,jt,eX,hg]
      refine ⟨by omega,c,rfl,?_⟩
      simp only [go_sem,byq,eX,iB]
      refine ⟨by omega,((n*10:Nat):Int),((dg c:Nat):Int),⟨rfl,rfl,hsj,hsd⟩,?_⟩
      refine kg (a:=n*10+dg c) (b:=2^128) (fun hf=>?_) (fun hf=>?_)
      ·rw [if_pos hf] at hl2
       have hft:decide (0≤z∧z<2^128)=true:=decide_eq_true (by omega)
       simp only [go_sem,byq,zAV,en,kE]
       refine ⟨z,⟨rfl,hsf⟩,?_⟩
       simp only [go_sem,byq,zau,hft,e5]
       refine ⟨(k+1,n*10+dg c),⟨by omega,hf,hl2⟩,by omega,?_⟩
       exact Z9
      ·rw [if_neg (Nat.not_lt.2 hf)] at hl2
       have hft:decide (0≤z∧z<2^128)=false:=decide_eq_false (by omega)
       simp only [go_sem,byq,zAV,en,kE]
       refine ⟨z,⟨rfl,hsf⟩,?_⟩
       simp only [go_sem,byq,zat,hft,eX,hZ,hl2,if_neg hbn,oX]
       refine ⟨by omega,?_⟩
       exact Z0
   ·have h2':k=b.length:=by simp at h2;omega
    subst h2'
    rw [List.drop_length] at hl2
    simp only [eL] at hl2
    simp only [go_sem,byq]
    by_cases hbn:b=[]
    ·subst hbn
     have hn0:n=0:=by simp only [eL] at hl2;exact (Option.some.inj hl2).symm
     subst hn0
     have hb0:(([]:List UInt8)==[])=true:=rfl
     simp only [go_sem,byq,if_pos,oX,hZ,hb0]
     exact Z12
    ·have hb0:(b==[])=false:=by simp [hbn]
     simp only [go_sem,byq,if_neg hbn,oX,hl2,zAV,hb0]
     exact Z0
 ·have hr:lit s=if s=[] then none else eL 10 0 s:=FR fun h=>by
   have:¬ 2<s.length:=by simp at h1;omega
   exact this h.1
  try simp only [go_sem,eX,hZ,Int.toNat_natCast,List.take_length,zau]
  refine ⟨by omega,?_⟩
  have hl':(s).length≤140737488355328:=by exact hl
  rw [hr]
  clear hr hl
  generalize s=b at *
  refine ay (A:=Nat × Nat) (fun x=>[(0,.str b),(2,.ptr H.nx 0),(4,.int .i64 10),(5,.ptr (H.nx+1) 0),(6,.int .i64 (x.1:Int))])
   (fun x=>(H.push (.cells [.bool false,.slice .nil 1 []])).push (.cells [.bool (decide ((x.2:Int)<0)),.slice .any 1 (cB (cq ((x.2:Int)).natAbs))]))
   (fun x=>x.1≤b.length∧x.2<2^128∧eL 10 0 b=eL 10 x.2 (b.drop x.1)) (fun x=>b.length - x.1) (0,0) ⟨by omega,by decide,rfl⟩ ?_ fun x hI=>?_
  ·exact Z10
  obtain ⟨k,n⟩:=x
  obtain ⟨hk,hn,hl2⟩:=hI
  dsimp only at *
  simp only [go_sem,byq]
  refine aq (fun h2=>?_) (fun h2=>?_)
  ·have h2':k<b.length:=by simpa using h2
   rw [List.drop_eq_getElem_cons h2'] at hl2
   have hg:AV.int .u8 ((b.getD k 0).toNat:Int)=bL b[k]:=by simp [List.getD_eq_getElem?_getD,h2',bL]
   have e5:IntKind.i64.wrap ((k:Int)+1)=((k+1:Nat):Int):=by rw [wrap_i64]<;>omega
   have hbn:b≠[]:=by intro h;subst h;simp at h2'
   simp only [eL] at hl2
   generalize b[k]=c at *
   have hc:dg c≤99:=by unfold dg;have:=UInt8.toNat_lt c;split<;>(try split)<;>omega
   simp only [go_sem,byq,hg,jt,eX,hZ]
   refine ⟨by omega,c,rfl,?_⟩
   simp only [go_sem,byq]
   refine aq (fun h3=>?_) (fun h3=>?_)
   ·have hd:¬ dg c<10:=by simp at h3;omega
    rw [if_neg hd] at hl2
    simp only [go_sem,byq,eX,hZ,hl2,if_neg hbn,oX]
    refine ⟨by omega,?_⟩
    exact Z0
   ·have hd:dg c<10:=by simp at h3;omega
    rw [if_pos hd] at hl2
    simp only [go_sem,byq,eX,hZ]
    refine ⟨by omega,?_⟩
    refine ay (A:=Nat) (fun j=>[(0,.str b),(2,.ptr H.nx 0),(4,.int .i64 10),(5,.ptr (H.nx+1) 0),(6,.int .i64 (k:Int)),(7,.ptr (H.nx+1+1) 0),(8,.int .i64 (j:Int))])
     (fun j=>((H.push (.cells [.bool false,.slice .nil 1 []])).push (.cells [.bool (decide ((n:Int)<0)),.slice .any 1 (cB (cq ((n:Int)).natAbs))])).push (.cells [.bool (decide (((n*j:Nat):Int)<0)),.slice .any 1 (cB (cq (((n*j:Nat):Int)).natAbs))]))
     (fun j=>j≤10) (fun j=>10 - j) 0 (by omega) ?_ fun j hj=>?_
    ·exact Z11
    have hnj:n*j<2^133:=by
     have:n*j≤n*16:=Nat.mul_le_mul_left n (by omega)
     omega
    have hsj:ep ((n*j:Nat):Int):=eC 60 (by rw [Int.natAbs_natCast];omega) (by decide)
    have hsn:ep (n:Int):=eC 60 (by rw [Int.natAbs_natCast];omega) (by decide)
    simp only [go_sem,byq]
    refine aq (fun h4=>?_) (fun h4=>?_)
    ·have h4':j<10:=by simp at h4;omega
     have ej:IntKind.i64.wrap ((j:Int)+1)=((j+1:Nat):Int):=by rw [wrap_i64]<;>omega
     have en:((n*j:Nat):Int)+(n:Int)=((n*(j+1):Nat):Int):=by rw [Nat.mul_add];omega
     simp only [go_sem,byq,iB]
     refine ⟨((n*j:Nat):Int),(n:Int),⟨rfl,rfl,hsj,hsn⟩,?_⟩
     simp only [go_sem,byq,zAV,en,ej]
     refine ⟨j+1,by omega,by omega,?_⟩
     exact Z1
    ·have h4':j=10:=by simp at h4;omega
     subst h4'
     have en:((n*10:Nat):Int)+((dg c:Nat):Int)=((n*10+dg c:Nat):Int):=by omega
     have hsd:ep ((dg c:Nat):Int):=eC 10 (by rw [Int.natAbs_natCast];omega) (by decide)
     have hsf:ep ((n*10+dg c:Nat):Int):=eC 60 (by rw [Int.natAbs_natCast];omega) (by decide)
     obtain ⟨z,hz2⟩:∃ z:Int,z=((n*10+dg c:Nat):Int):=⟨_,rfl⟩
     rw [← hz2] at en hsf
     obtain ⟨y,hy⟩:∃ y:Int,y=((dg c:Nat):Int):=⟨_,rfl⟩
     simp only [go_sem,byq,iB,jt,eX,hg]
     refine ⟨by omega,c,rfl,?_⟩
     simp only [go_sem,byq,eX,iB]
     refine ⟨by omega,((n*10:Nat):Int),((dg c:Nat):Int),⟨rfl,rfl,hsj,hsd⟩,?_⟩
     refine kg (a:=n*10+dg c) (b:=2^128) (fun hf=>?_) (fun hf=>?_)
     ·rw [if_pos hf] at hl2
      have hft:decide (0≤z∧z<2^128)=true:=decide_eq_true (by omega)
      simp only [go_sem,byq,zAV,en,kE]
      refine ⟨z,⟨rfl,hsf⟩,?_⟩
      simp only [go_sem,byq,zau,hft,e5]
      refine ⟨(k+1,n*10+dg c),⟨by omega,hf,hl2⟩,by omega,?_⟩
      exact Z9
     ·rw [if_neg (Nat.not_lt.2 hf)] at hl2
      have hft:decide (0≤z∧z<2^128)=false:=decide_eq_false (by omega)
      simp only [go_sem,byq,zAV,en,kE]
      refine ⟨z,⟨rfl,hsf⟩,?_⟩
      simp only [go_sem,byq,zat,hft,eX,hZ,hl2,if_neg hbn,oX]
      refine ⟨by omega,?_⟩
      exact Z0
  ·have h2':k=b.length:=by simp at h2;omega
   subst h2'
   rw [List.drop_length] at hl2
   simp only [eL] at hl2
   simp only [go_sem,byq]
   by_cases hbn:b=[]
   ·subst hbn
    have hn0:n=0:=by simp only [eL] at hl2;exact (Option.some.inj hl2).symm
    subst hn0
    have hb0:(([]:List UInt8)==[])=true:=rfl
    simp only [go_sem,byq,if_pos,oX,hZ,hb0]
    exact Z12
   ·have hb0:(b==[])=false:=by simp [hbn]
    simp only [go_sem,byq,if_neg hbn,oX,hl2,zAV,hb0]
    exact Z0
end Go.AL
open Go Go.AL Go.Proofs
namespace Go.AL
set_option linter.all false
set_option maxRecDepth 10000
theorem JB:ti Tryz.prog 339=some ⟨.struct [(0,3,false),(1,9,false),(2,3,false)],3,32,.agg [.int .i64 0,.str [],.int .i64 0]⟩:=by kernel_rfl
theorem JK:ti Tryz.prog 451=some ⟨.struct [(0,3,false),(1,9,false),(2,3,false)],3,32,.agg [.int .i64 0,.str [],.int .i64 0]⟩:=by kernel_rfl
theorem Ha:ti Tryz.prog 181=some ⟨.slice 339,1,24,.slice .nil 1 []⟩:=by kernel_rfl
theorem Gn:ti Tryz.prog 357=some ⟨.slice 451,1,24,.slice .nil 1 []⟩:=by kernel_rfl
theorem DV:ti Tryz.prog 52=some ⟨.int .i64,1,8,.int .i64 0⟩:=by kernel_rfl
attribute [go_sem] JB JK Ha Gn DV
theorem CE {t:Bool} {A B:Prop} (e:t=false) (h:B):k8 t A B:=bD (fun h=>by simp [e] at h) (fun _=>h)
theorem xb {P:Program} {Ω:Tbl} {K:Conts} {t:Bool} {a b:Code} {fr:Fr} {H:AHeap} (e:t=false) (h:aw P Ω b K fr H):n8 P Ω (.bool t) a b K fr H:=aq (fun h=>by simp [e] at h) (fun _=>h)
/-- a row of texts -/
def sAV (l:List (List UInt8)):List AV:=l.map .str
theorem iN {l:List (List UInt8)}:(sAV l).length=l.length:=by simp [sAV]
theorem wP {l:List (List UInt8)} {i:Nat} (h:i<l.length):(sAV l).getD i .junk=.str (l.getD i []):=by simp [sAV,List.getD_eq_getElem?_getD,h]
theorem iw {n sz:Nat} {l:List AV} (h:∀ x∈l,AV.lt n x):AV.lt n (.slice .any sz l):=by
 rw [AV.lt]
 exact ⟨fun id e=>(by cases e),fun j hj=>h _ (List.getElem_mem hj)⟩
theorem cK {n:Nat} {l:List (List UInt8)}:AV.lt n (.slice .any 1 (sAV l)):=iw fun x hx=>by
 obtain ⟨s,_,rfl⟩:=List.mem_map.1 hx
 simp only [znd]
theorem Hk:[AV.str [38,38],.str [124,124],.str [45,62],.str [61,61],.str [33,61],.str [60,61],.str [62,61],.str [58,58],.str [40],.str [41],.str [33],.str [60],.str [62],.str [43],.str [45]]=sAV syms:=rfl
theorem gE:syms.length=15:=rfl
/-- tokens in memory -/
def xM (t:Tok):AV:=.agg [.int .i64 (t.1:Int),.str t.2.1,.int .i64 (t.2.2:Int)]
def cU (l:List Tok):List AV:=l.map xM
theorem aO {l:List Tok}:(cU l).length=l.length:=by simp [cU]
theorem F3 {l:List Tok} {x:List UInt8} {k:Nat}:cU l++[.agg [.int .i64 1,.str x,.int .i64 (k:Int)]]=cU (l++[(1,x,k)]):=by simp [cU,xM]
theorem Gq {l:List Tok} {x:List UInt8} {k:Nat}:cU l++[.agg [.int .i64 2,.str x,.int .i64 (k:Int)]]=cU (l++[(2,x,k)]):=by simp [cU,xM]
theorem GJ {l:List Tok} {x:List UInt8} {k:Nat}:cU l++[.agg [.int .i64 3,.str x,.int .i64 (k:Int)]]=cU (l++[(3,x,k)]):=by simp [cU,xM]
theorem ri {k1 k2:IntKind} {a c:Int} {b:List UInt8}:(∀ z,z∈[AV.agg [.int k1 a,.str b,.int k2 c]]→bI z.cells=true)=True:=eq_true fun z hz=>by
 rw [List.mem_singleton.1 hz]
 simp [zim,zgm,zgn,zgo,zgq]
theorem bj {H Hc:AHeap} {i:Nat} {o:AObj} (h:H.Le Hc) (hi:H.nx≤i):H.Le (Hc.set i o):=⟨h.nx,fun j x hj=>by
 have:=AHeap.get_lt hj
 rw [AHeap.get_set_ne _ _ (by omega)]
 exact h.get j x hj⟩
theorem eY:cU []=[]:=rfl
theorem BU {n:Nat} {l:List Tok}:AV.lt n (.slice .any 3 (cU l)):=iw fun x hx=>by
 obtain ⟨s,_,rfl⟩:=List.mem_map.1 hx
 simp only [xM,znn,znq,znr,znb,znd,and_true]
theorem E4 {n:Nat} {l:List Tok}:ltL n (cU l):=ltL_iff.2 fun j hj=>by
 simp only [cU,List.getElem_map,xM,znn,znq,znr,znb,znd,and_true]
theorem mN {n id:Nat} {l:List Tok} (h:id<n):AV.lt n (.slice (.own id) 3 (cU l)):=by
 rw [aM]
 exact ⟨fun i e=>by cases e;exact h,E4⟩
def nd (s:List UInt8):AV:=.tup [.slice .any 3 (cU (bZ s).1),.int .i64 ((bZ s).2.1:Int),.int .i64 ((bZ s).2.2:Int)]
def kA:List AV→AHeap→(AV→Prop)→Prop
 |[.str s,.str p],_,K=>K (.bool (iD s p))
 |_,_,_=>False
theorem py:EntOk Tryz.prog 278 (Ent.pure kA):=by
 refine EntOk.pure fun args H K h=>?_
 unfold kA at h
 split at h
 rotate_left
 ·exact h.elim
 rename_i s p
 refine ⟨_,h,?_⟩
 clear h
 refine ACalls.fW aB (TblOk.cons oA TblOk.nil) Tryz.func278 [.tmp 4] (Nat.le_refl _) (T:=aA []) (h:=fun hcl hlt=>?_)
 clear hlt
 simp only [go_sem,jE]
 exact Z0
def pm:List AV→AHeap→(AV→Prop)→Prop
 |[],_,K=>K (.slice .any 1 (sAV syms))
 |_,_,_=>False
theorem zf:EntOk Tryz.prog 391 (Ent.pure pm):=by
 refine EntOk.pure fun args H K h=>?_
 unfold pm at h
 split at h
 rotate_left
 ·exact h.elim
 refine ⟨_,h,?_⟩
 clear h
 refine ACalls.fW aB TblOk.nil Tryz.func391 [.tmp 0] (Nat.le_refl _) (T:=aA []) (h:=fun hcl hlt=>?_)
 clear hlt
 simp only [go_sem,Hk]
 simp (disch:=first|exact Zd|omega) [↓zmk,beq,ybc,ybd,ybe,ag,wk,wk2,wk1,wkM,wkL,au,ybf,hcl,cK]
theorem vM {x:List UInt8} {l:List (List UInt8)} {s:List UInt8}:tp (x::l) s=if iD s x then x else tp l s:=by rw [tp]
def qJ:List AV→AHeap→(AV→Prop)→Prop
 |[.str s],_,K=>K (.str (jW s))
 |_,_,_=>False
theorem AG:EntOk Tryz.prog 279 (Ent.pure qJ):=by
 refine EntOk.pure fun args H K h=>?_
 unfold qJ at h
 split at h
 rotate_left
 ·exact h.elim
 rename_i s
 refine ⟨_,h,?_⟩
 clear h
 refine ACalls.fW aB (TblOk.cons zf (TblOk.cons py TblOk.nil)) Tryz.func279 [.tmp 2] (Nat.le_refl _) (T:=aA []) (h:=fun hcl hlt=>?_)
 clear hlt
 simp only [go_sem,pm,iN]
 refine ay (A:=Nat) (fun k=>[(0,.str s),(5,.slice .any 1 (sAV syms)),(6,.int .i64 15),(7,.int .i64 (k:Int))]) (fun k=>H) (fun k=>k≤15∧jW s=tp (syms.drop k) s) (fun k=>15 - k) 0 ⟨by omega,rfl⟩ ?_ fun k hk=>?_
 ·(simp only [bkq,enterW,aI,ltF,ne_eq,Nat.reduceEqDiff,reduceCtorEq,cK,gE];try simp (disch:=first|exact Zd|omega) [↓zmk,beq,ybc,ybd,ybe,ag,wk,wk2,wk1,wkM,wkL,au,ybf,byq,biq,ah,hcl,cK,gE];try (repeat' (first|assumption|omega|exact True.intro|refine And.intro ?_ ?_|refine af ?_|refine aa ?_|refine ae ?_ ?_|refine ai ?_ ?_|refine aj ?_|exact AHeap.Le.refl _|refine AHeap.Le.push ?_ _|refine AHeap.Le.del ?_ ?_|(simp only [bt,and_true,true_and,cK,gE];first|done|omega|(simp;done)))))
 obtain ⟨hk,hs⟩:=hk
 simp only [go_sem]
 refine aq (fun h1=>?_) (fun h1=>?_)
 ·have hk2:k<15:=by simp at h1;omega
  have hk1:k<syms.length:=by rw [gE];exact hk2
  have hg:(sAV syms).getD k .junk=.str (syms.getD k []):=wP hk1
  have e5:IntKind.i64.wrap ((k:Int)+1)=((k+1:Nat):Int):=by rw [wrap_i64]<;>omega
  have hgk:syms.getD k []=syms[k]:=by simp [List.getD_eq_getElem?_getD,hk1]
  rw [List.drop_eq_getElem_cons hk1,vM] at hs
  rw [hgk] at hg
  generalize syms[k]=x at *
  simp only [go_sem,Int.toNat_natCast,iN,gE,hg,kA,e5]
  refine ⟨by omega,aq (fun h2=>?_) (fun h2=>?_)⟩
  ·rw [if_pos h2] at hs
   simp only [go_sem,hs]
   exact Z0
  ·rw [if_neg (by simp [h2])] at hs
   simp only [go_sem,e5]
   refine ⟨k+1,⟨by omega,hs⟩,by omega,?_⟩
   exact Z13
 ·have hk1:k=15:=by simp at h1;omega
  subst hk1
  have h0:jW s=[]:=by rw [hs];rfl
  simp only [go_sem,h0]
  exact Z0
def nD:List AV→AHeap→(AV→Prop)→Prop
 |[x],_,K=>∃ c,x=bL c∧K (.bool (dn c))
 |_,_,_=>False
theorem tQ:EntOk Tryz.prog 281 (Ent.pure nD):=by
 refine EntOk.pure fun args H K h=>?_
 unfold nD at h
 split at h
 rotate_left
 ·exact h.elim
 obtain ⟨c,rfl,hK⟩:=h
 refine ⟨_,hK,?_⟩
 clear hK
 refine ACalls.fW aB TblOk.nil Tryz.func281 [.tmp 2] (Nat.le_refl _) (T:=aA []) (h:=fun hcl hlt=>?_)
 clear hlt
 simp only [go_sem,bL]
 refine bD (fun h1=>?_) (fun h1=>?_)
 ·have e:dn c=decide ((c.toNat:Int)≤122):=by unfold dn;rw [Bool.eq_iff_iff];simp at h1 ⊢;omega
  simp only [go_sem,e]
  exact Z0
 ·have e:dn c=false:=by unfold dn;rw [Bool.eq_iff_iff];simp at h1 ⊢;omega
  simp only [go_sem,e]
  exact Z0
def ye:List AV→AHeap→(AV→Prop)→Prop
 |[x],_,K=>∃ c,x=bL c∧K (.bool (dm c))
 |_,_,_=>False
theorem Hy:EntOk Tryz.prog 392 (Ent.pure ye):=by
 refine EntOk.pure fun args H K h=>?_
 unfold ye at h
 split at h
 rotate_left
 ·exact h.elim
 obtain ⟨c,rfl,hK⟩:=h
 refine ⟨_,hK,?_⟩
 clear hK
 refine ACalls.fW aB (TblOk.cons tQ TblOk.nil) Tryz.func392 [.tmp 2] (Nat.le_refl _) (T:=aA []) (h:=fun hcl hlt=>?_)
 clear hlt
 simp only [go_sem,nD]
 refine ⟨c,rfl,?_⟩
 simp only [go_sem,bL]
 have e95:(((c.toNat:Nat):Int)==95)=(c==95):=by rw [Bool.eq_iff_iff];simp [← UInt8.toNat_inj];omega
 rw [e95]
 refine bD (fun h1=>?_) (fun h1=>?_)
 ·have e:dm c=true:=by unfold dm;rw [h1];rfl
  simp only [go_sem,e]
  exact Z0
 ·refine bD (fun h2=>?_) (fun h2=>?_)
  ·have h2':48≤c.toNat:=by simp at h2;omega
   refine bD (fun h3=>?_) (fun h3=>?_)
   ·have h3':c.toNat≤57:=by simp at h3;omega
    have e:dm c=true:=by unfold dm;rw [decide_eq_true h2',decide_eq_true h3'];simp
    simp only [go_sem,e]
    exact Z0
   ·have h3':¬ c.toNat≤57:=by simp at h3;omega
    have e:dm c=(c==95):=by unfold dm;rw [decide_eq_false h3',h1];simp
    simp only [go_sem,e]
    exact Z0
  ·have h2':¬ 48≤c.toNat:=by simp at h2;omega
   have e:dm c=(c==95):=by unfold dm;rw [decide_eq_false h2',h1];simp
   simp only [go_sem,e]
   exact Z0
theorem mL {s:List UInt8} {k:Nat} (h:k<s.length):c7 (s.drop k)=if dm (s.getD k 0) then s.getD k 0::c7 (s.drop (k+1)) else []:=by
 have e:s.getD k 0=s[k]:=by simp [List.getD_eq_getElem?_getD,h]
 rw [e,List.drop_eq_getElem_cons h]
 unfold c7
 by_cases hp:dm s[k]=true
 ·rw [if_pos hp,List.takeWhile_cons_of_pos hp]
 ·rw [if_neg hp,List.takeWhile_cons_of_neg hp]
theorem vz {s:List UInt8} {k:Nat} (h:k<s.length) (hp:dm (s.getD k 0)=true) (hw:c7 s=s.take k++c7 (s.drop k)):c7 s=s.take (k+1)++c7 (s.drop (k+1)):=by
 have e:s.getD k 0=s[k]:=by simp [List.getD_eq_getElem?_getD,h]
 rw [mL h,if_pos hp,e] at hw
 rw [hw,List.take_succ_eq_append_getElem h,List.append_assoc];rfl
theorem rO {s:List UInt8} {k:Nat} (h:k<s.length) (hp:dm (s.getD k 0)=false) (hw:c7 s=s.take k++c7 (s.drop k)):c7 s=s.take k:=by
 rw [mL h,if_neg (by rw [hp];decide),yaj] at hw
 exact hw
theorem tn {s:List UInt8} {k:Nat} (h:¬ k<s.length) (hw:c7 s=s.take k++c7 (s.drop k)):c7 s=s.take k:=by
 rw [ybf (by omega)] at hw
 simpa [c7] using hw
def yc:List AV→AHeap→(AV→Prop)→Prop
 |[.str s],_,K=>s.length≤140737488355328∧K (.str (c7 s))
 |_,_,_=>False
theorem Fy:EntOk Tryz.prog 280 (Ent.pure yc):=by
 refine EntOk.pure fun args H K h=>?_
 unfold yc at h
 split at h
 rotate_left
 ·exact h.elim
 rename_i s
 obtain ⟨hsl,hK⟩:=h
 refine ⟨_,hK,?_⟩
 clear hK
 refine ACalls.fW aB (TblOk.cons Hy TblOk.nil) Tryz.func280 [.tmp 2] (Nat.le_refl _) (T:=aA []) (h:=fun hcl hlt=>?_)
 clear hlt
 simp only [go_sem]
 refine ay (A:=Nat) (fun k=>[(0,.str s),(3,.int .i64 (k:Int))]) (fun k=>H) (fun k=>k≤s.length∧c7 s=s.take k++c7 (s.drop k)) (fun k=>s.length - k) 0 ⟨by omega,by simp⟩ ?_ fun k hk=>?_
 ·exact Z1
 obtain ⟨hk,hs⟩:=hk
 simp only [go_sem]
 refine bD (fun h1=>?_) (fun h1=>?_)
 ·have hk1:k<s.length:=by simp at h1;omega
  have e5:IntKind.i64.wrap ((k:Int)+1)=((k+1:Nat):Int):=by rw [wrap_i64]<;>omega
  simp only [go_sem,ye,Int.toNat_natCast]
  refine ⟨by omega,s.getD k 0,rfl,?_⟩
  refine aq (fun h2=>?_) (fun h2=>?_)
  ·simp only [go_sem,e5]
   refine ⟨k+1,⟨by omega,vz hk1 h2 hs⟩,by omega,?_⟩
   exact Z1
  ·have hw:=rO hk1 h2 hs
   simp only [go_sem,Int.toNat_natCast,hw]
   refine ⟨by omega,?_⟩
   exact Z0
 ·have hk1:¬ k<s.length:=by simp at h1;omega
  have hw:=tn hk1 hs
  try simp only [go_sem,Int.toNat_natCast,hw,zau]
  refine ⟨by omega,?_⟩
  exact Z0
def sF:List AV→AHeap→(AV→Prop)→Prop
 |[.str s],_,K=>s.length≤140737488355328∧K (nd s)
 |_,_,_=>False
theorem qd {s:List UInt8} {k:Nat} {x:List UInt8} {kd:Nat} (h:k<s.length) (h3:lq (s.drop k)=some (kd,x)):x≠[]∧k+x.length≤s.length:=by
 obtain ⟨g1,g2,_⟩:=ln h3
 rw [List.length_drop] at g2
 exact ⟨g1,by omega⟩
theorem vD {s:List UInt8} {l:List Tok} (h:¬ 400<s.length) (e:rest s 0=(l,none)):bZ s=(l,0,0):=by unfold bZ;rw [if_neg h,e]
theorem lr {s:List UInt8} {l:List Tok} {k:Nat} (h:¬ 400<s.length) (e:rest s 0=(l,some k)):bZ s=([],k,10):=by unfold bZ;rw [if_neg h,e]
theorem vO {s:List UInt8} (h:c7 s=[]) (h2:jW s=[]):lq s=none:=by unfold lq;rw [h,h2]
theorem zi {s y:List UInt8} (h:c7 s=[]) (h2:jW s=y) (hy:y≠[]):lq s=some (3,y):=by
 unfold lq;rw [h,h2];cases y with
 |nil=>exact absurd rfl hy
 |cons a b=>rfl
theorem zE {s w:List UInt8} {c:UInt8} (h:c7 s=c::w) (h2:dn c=true):lq s=some (2,c::w):=by unfold lq;rw [h];dsimp only;rw [if_pos h2]
theorem yF {s w:List UInt8} {c:UInt8} {n:Nat} (h:c7 s=c::w) (h2:dn c=false) (h3:lit (c::w)=some n):lq s=some (1,c::w):=by
 unfold lq;rw [h];dsimp only;rw [if_neg (by rw [h2];decide),h3];rfl
theorem ur {s w:List UInt8} {c:UInt8} (h:c7 s=c::w) (h2:dn c=false) (h3:lit (c::w)=none):lq s=none:=by
 unfold lq;rw [h];dsimp only;rw [if_neg (by rw [h2];decide),h3];rfl
theorem nI {s:List UInt8} {pre:List Tok} {k kd id:Nat} {x:List UInt8} {H Hd:AHeap} {fr:Fr} (hk:k<s.length) (hc:s[k]≠32) (ht:lq (s.drop k)=some (kd,x)) (hpl:pre.length≤k)
 (hr:rest s 0=(pre++(rest s k).1,(rest s k).2)) (hle:H.Le Hd) (hcd:Hd.Closed) (hid:H.nx≤id) (hg:Hd.get id=some (.buf 3 (pre.length+1)))
 (f0:Fr.get fr 0=.str s) (f5:Fr.get fr 5=.slice (.own id) 3 (cU (pre++[(kd,x,k)]))) (f6:Fr.get fr 6=.int .i64 ((k+x.length:Nat):Int)) :
 ∃ a':Nat × List Tok × Nat × AHeap,((a'.1≤s.length∧a'.2.1.length≤a'.1∧rest s 0=(a'.2.1++(rest s a'.1).1,(rest s a'.1).2))∧H.Le a'.2.2.2∧a'.2.2.2.Closed∧H.nx≤a'.2.2.1∧a'.2.2.2.get a'.2.2.1=some (.buf 3 a'.2.1.length)) ∧
  s.length - a'.1<s.length - k∧enterW H.nx fr Hd [(0,.str s),(5,.slice (.own a'.2.2.1) 3 (cU a'.2.1)),(6,.int .i64 (a'.1:Int))] a'.2.2.2:=by
 obtain ⟨hy1,hy2⟩:=qd hk ht
 have hyl:0<x.length:=List.length_pos_iff.2 hy1
 have hid2:id<Hd.nx:=AHeap.get_lt hg
 refine ⟨(k+x.length,pre++[(kd,x,k)],id,Hd),⟨⟨hy2,?_,?_⟩,hle,hcd,hid,?_⟩,?_,hle.nx,AHeap.Le.refl _,hcd,?_,?_⟩
 ·simp;omega
 ·rw [hr,F0 hk hc ht,List.append_assoc];rfl
 ·rw [hg];simp
 ·dsimp only;omega
 ·simp only [ltF,znd,znb,true_and,and_true]
  exact mN hid2
 ·simp [aI,wk2,wk1,wkM,f0,f5,f6]
theorem vY {s:List UInt8} {k:Nat} (h:k<s.length):iD (s.drop k) [32]=(s[k]==32):=by
 unfold iD
 rw [List.drop_eq_getElem_cons h]
 generalize s.drop (k+1)=r
 rw [Bool.eq_iff_iff,beq_iff_eq,beq_iff_eq]
 show [s[k]]=[32]↔_
 simp
theorem Hq:EntOk Tryz.prog 123 (Ent.pure sF):=by
 refine EntOk.pure fun args H K h=>?_
 unfold sF at h
 split at h
 rotate_left
 ·exact h.elim
 rename_i s
 obtain ⟨hsl,hK⟩:=h
 refine ⟨_,hK,?_⟩
 clear hK
 refine ACalls.fW aB (TblOk.cons py (TblOk.cons AG (TblOk.cons Fy (TblOk.cons tQ (TblOk.cons rA TblOk.nil))))) Tryz.func123 [.tmp 2,.tmp 3,.tmp 4] (Nat.le_refl _) (T:=aA []) (h:=fun hcl hlt=>?_)
 clear hlt
 simp only [go_sem,nd]
 refine aq (fun h1=>?_) (fun h1=>?_)
 ·have h1':400<s.length:=by simp at h1;omega
  have e:bZ s=([],0,3):=by unfold bZ;rw [if_pos h1']
  simp only [go_sem,e,eY]
  exact Z14
 have h1':¬ 400<s.length:=by simp at h1;omega
 simp only [go_sem]
 refine ay (A:=Nat × List Tok × Nat × AHeap) (fun a=>[(0,.str s),(5,.slice (.own a.2.2.1) 3 (cU a.2.1)),(6,.int .i64 (a.1:Int))]) (fun a=>a.2.2.2)
  (fun a=>(a.1≤s.length∧a.2.1.length≤a.1∧rest s 0=(a.2.1++(rest s a.1).1,(rest s a.1).2))∧H.Le a.2.2.2∧a.2.2.2.Closed∧H.nx≤a.2.2.1∧a.2.2.2.get a.2.2.1=some (.buf 3 a.2.1.length))
  (fun a=>s.length - a.1) (0,[],H.nx+1,(H.push (.buf 3 0)).push (.buf 3 0)) ⟨⟨by omega,by simp,by simp⟩,?_,?_,by simp,?_⟩ ?_ fun a ha=>?_
 ·exact Z0
 ·(repeat' (first|assumption|omega|exact True.intro|refine And.intro ?_ ?_|refine af ?_|refine aa ?_|refine ae ?_ ?_|refine ai ?_ ?_|refine aj ?_|exact AHeap.Le.refl _|refine AHeap.Le.push ?_ _|refine AHeap.Le.del ?_ ?_|(simp only [bt,and_true,true_and];first|done|omega|(simp;done))))
 ·exact AHeap.get_push_new _ _
 ·exact Z15
 obtain ⟨k,pre,id,Hc⟩:=a
 obtain ⟨⟨hk,hpl,hr⟩,hle,hcc,hid,hst⟩:=ha
 dsimp only at hk hpl hr hle hcc hid hst ⊢
 have hnx:H.nx≤Hc.nx:=hle.nx
 have hid2:id<Hc.nx:=AHeap.get_lt hst
 simp only [go_sem]
 refine aq (fun h2=>?_) (fun h2=>?_)
 ·have hk1:k<s.length:=by simp at h2;omega
  have e5:IntKind.i64.wrap ((k:Int)+1)=((k+1:Nat):Int):=by rw [wrap_i64]<;>omega
  simp only [go_sem,kA,Int.toNat_natCast,List.take_length]
  refine ⟨by omega,aq (fun h3=>?_) (fun h3=>?_)⟩
  ·have hc:s[k]=32:=by rw [vY hk1] at h3;simpa using h3
   rw [ut hk1 hc] at hr
   simp only [go_sem,e5]
   refine ⟨(k+1,pre,id,Hc),⟨⟨by dsimp only;omega,by dsimp only;omega,hr⟩,hle,hcc,hid,hst⟩,by dsimp only;omega,?_⟩
   (simp only [bkq,enterW,aI,ltF,ne_eq,Nat.reduceEqDiff,reduceCtorEq,hcc,hnx,hid2];try simp (disch:=first|exact Zd|omega) [↓zmk,beq,ybc,ybd,ybe,ag,wk,wk2,wk1,wkM,wkL,au,ybf,byq,biq,ah,hcl,hcc,hnx,hid2];try (repeat' (first|assumption|omega|exact True.intro|refine And.intro ?_ ?_|refine af ?_|refine aa ?_|refine ae ?_ ?_|refine ai ?_ ?_|refine aj ?_|exact AHeap.Le.refl _|refine AHeap.Le.push ?_ _|refine AHeap.Le.del ?_ ?_|(simp only [bt,and_true,true_and,hcc,hnx,hid2];first|done|omega|(simp;done)))))
   exact mN hid2
  have n1:(id=Hc.nx)=False:=eq_false (by omega)
  have n2:(id=Hc.nx+1)=False:=eq_false (by omega)
  have n3:(id=Hc.nx+1+1)=False:=eq_false (by omega)
  have hc:s[k]≠32:=by rw [vY hk1] at h3;simpa using h3
  have hsd:(s.drop k).length≤400:=by rw [List.length_drop];omega
  simp only [go_sem,qJ,yc]
  refine ⟨by omega,?_⟩
  cases hw:c7 (s.drop k) with
  |nil =>
   have en:(([]:List UInt8) != [])=false:=rfl
   rcases Classical.em (jW (s.drop k)=[]) with hy|hy
   ·have htk:=vO hw hy
    rw [mX hk1 hc htk,yaj] at hr
    have hsc:=lr h1' hr
    have eb:(([]:List UInt8)==[])=true:=rfl
    simp only [go_sem,hsc,hy,en,eb,zau,zat,eY]
    simp (disch:=first|exact Zd|omega) [↓zmk,beq,ybc,ybd,ybe,ag,wk,wk2,wk1,wkM,wkL,au,ybf,hcc,hle,hcl]
    exact (hle.push _).push _
   ·have htk:=zi hw rfl hy
    have eb:(jW (s.drop k)==[])=false:=by simpa using hy
    have eb0:(([]:List UInt8)==[])=true:=rfl
    obtain ⟨hy1,hy2⟩:=qd hk1 htk
    generalize jW (s.drop k)=y at *
    have e6:IntKind.i64.wrap ((k:Int)+(y.length:Int))=((k+y.length:Nat):Int):=by rw [wrap_i64]<;>omega
    simp only [go_sem,en,eb,eb0,zau,zat,n1,n2,hst,aO,GJ,e6,ri]
    refine ⟨by omega,nI hk1 hc htk hpl hr (((bj hle hid).push _).push _) ?_ hid ?_ rfl rfl rfl⟩
    ·exact af (ae (aa hcc) (by simp [znq,znr,znb,znd]))
    ·rw [AHeap.get_push_lt _ _ (by simp [AHeap.push,AHeap.set];omega),AHeap.get_push_lt _ _ (by simp [AHeap.set];omega),AHeap.get_set_same _ _ hid2]
  |cons c w =>
   have en:((c::w) != [])=true:=rfl
   have eb:((c::w)==[])=false:=rfl
   simp only [go_sem,en,eb,zat,nD]
   refine ⟨by omega,c,rfl,?_⟩
   cases hlc:dn c with
   |true =>
    have htk:=zE hw hlc
    obtain ⟨_,hy2⟩:=qd hk1 htk
    have e6:IntKind.i64.wrap ((k:Int)+((w.length+1:Nat):Int))=((k+(c::w).length:Nat):Int):=by
     rw [yaz] at hy2 ⊢
     rw [wrap_i64]<;>omega
    simp only [go_sem,en,eb,zau,zat,n1,n2,hst,aO,Gq,e6,ri]
    refine ⟨by omega,nI hk1 hc htk hpl hr (((bj hle hid).push _).push _) ?_ hid ?_ rfl rfl rfl⟩
    ·exact af (ae (aa hcc) (by simp [znq,znr,znb,znd]))
    ·rw [AHeap.get_push_lt _ _ (by simp [AHeap.push,AHeap.set];omega),AHeap.get_push_lt _ _ (by simp [AHeap.set];omega),AHeap.get_set_same _ _ hid2]
   |false =>
    have hcw:(c::w).length≤400:=by rw [← hw];exact Nat.le_trans (List.takeWhile_sublist _).length_le hsd
    simp only [go_sem,en,eb,zau,zat,mc]
    cases hli:lit (c::w) with
    |none =>
     have htk:=ur hw hlc hli
     rw [mX hk1 hc htk,yaj] at hr
     have hsc:=lr h1' hr
     simp only [go_sem,hsc,sj,nAV,zau,zat,eY]
     refine ⟨by simp only [yaz] at hcw;omega,?_⟩
     simp (disch:=first|exact Zd|omega) [↓zmk,beq,ybc,ybd,ybe,ag,wk,wk2,wk1,wkM,wkL,au,ybf,hcc,hle,hcl]
     exact ((hle.push _).push _).push _
    |some n =>
     have htk:=yF hw hlc hli
     obtain ⟨_,hy2⟩:=qd hk1 htk
     have e6:IntKind.i64.wrap ((k:Int)+((w.length+1:Nat):Int))=((k+(c::w).length:Nat):Int):=by
      rw [yaz] at hy2 ⊢
      rw [wrap_i64]<;>omega
     simp only [go_sem,sj,nAV,zau,zat,n1,n2,n3,eb,hst,aO,F3,e6,ri]
     refine ⟨by simp only [yaz] at hcw;omega,by omega,nI hk1 hc htk hpl hr ((((bj hle hid).push _).push _).push _) ?_ hid ?_ rfl rfl rfl⟩
     ·exact af (ae (ae (aa hcc) (by simp [znq,znr,znb,znd])) (by simp [znq,znr,znb,znd]))
     ·rw [AHeap.get_push_lt _ _ (by simp [AHeap.push,AHeap.set];omega),AHeap.get_push_lt _ _ (by simp [AHeap.push,AHeap.set];omega),AHeap.get_push_lt _ _ (by simp [AHeap.set];omega),AHeap.get_set_same _ _ hid2]
 ·have hk1:s.length≤k:=by simp at h2;omega
  rw [yx hk1,yaj] at hr
  have hsc:=vD h1' hr
  simp only [go_sem,hsc]
  exact Z16
end Go.AL
open Go Go.AL Go.Proofs
namespace Go.AL
set_option linter.all false
set_option maxRecDepth 10000
def ya:List AV→AHeap→(AV→Prop)→Prop
 |[x],_,K=>∃ c,x=bL c∧K (.bool (dm c))
 |_,_,_=>False
theorem Fa:EntOk Tryz.prog 464 (Ent.pure ya):=by
 refine EntOk.pure fun args H K h=>?_
 unfold ya at h
 split at h
 rotate_left
 ·exact h.elim
 obtain ⟨c,rfl,hK⟩:=h
 refine ⟨_,hK,?_⟩
 clear hK
 refine ACalls.fW aB TblOk.nil Tryz.func464 [.tmp 2] (Nat.le_refl _) (T:=aA []) (h:=fun hcl hlt=>?_)
 clear hlt
 simp only [go_sem,bL]
 have e95:(((c.toNat:Nat):Int)==95)=(c==95):=by rw [Bool.eq_iff_iff];simp [← UInt8.toNat_inj];omega
 rw [e95]
 have fin:∀ {t:Bool},dm c=t→ag H (AV.bool t) H (AV.bool (dm c)):=fun e=>by
  rw [e]
  exact Z0
 have tl:dn c=false→k8 (decide ((c.toNat:Int) ≥ 48)) (k8 (decide ((c.toNat:Int)≤57)) (ag H (AV.bool true) H (AV.bool (dm c))) (ag H (AV.bool (c==95)) H (AV.bool (dm c)))) (ag H (AV.bool (c==95)) H (AV.bool (dm c))):=fun h1=>by
  refine bD (fun h2=>?_) (fun h2=>?_)
  ·have h2':48≤c.toNat:=by simp at h2;omega
   refine bD (fun h3=>?_) (fun h3=>?_)
   ·have h3':c.toNat≤57:=by simp at h3;omega
    exact fin (by unfold dm;rw [decide_eq_true h2',decide_eq_true h3'];simp)
   ·have h3':¬ c.toNat≤57:=by simp at h3;omega
    exact fin (by unfold dm;rw [decide_eq_false h3',h1];simp)
  ·have h2':¬ 48≤c.toNat:=by simp at h2;omega
   exact fin (by unfold dm;rw [decide_eq_false h2',h1];simp)
 refine bD (fun h1=>bD (fun h2=>?_) (fun h2=>tl ?_)) (fun h1=>tl ?_)
 ·exact fin (by unfold dm dn;simp at h1 h2;rw [decide_eq_true (by omega),decide_eq_true (by omega)];simp)
 ·unfold dn;simp at h2;rw [decide_eq_false (p:=c.toNat≤122) (by omega)];simp
 ·unfold dn;simp at h1;rw [decide_eq_false (p:=97≤c.toNat) (by omega)];simp
def xc:List AV→AHeap→(AV→Prop)→Prop
 |[.str s],_,K=>s.length≤140737488355328∧K (.int .i64 ((c7 s).length:Int))
 |_,_,_=>False
theorem G8:EntOk Tryz.prog 409 (Ent.pure xc):=by
 refine EntOk.pure fun args H K h=>?_
 unfold xc at h
 split at h
 rotate_left
 ·exact h.elim
 rename_i s
 obtain ⟨hsl,hK⟩:=h
 refine ⟨_,hK,?_⟩
 clear hK
 refine ACalls.fW aB (TblOk.cons Fa TblOk.nil) Tryz.func409 [.tmp 2] (Nat.le_refl _) (T:=aA []) (h:=fun hcl hlt=>?_)
 clear hlt
 simp only [go_sem]
 refine ay (A:=Nat) (fun k=>[(0,.str s),(3,.int .i64 (k:Int))]) (fun k=>H) (fun k=>k≤s.length∧c7 s=s.take k++c7 (s.drop k)) (fun k=>s.length - k) 0 ⟨by omega,by simp⟩ ?_ fun k hk=>?_
 ·exact Z1
 obtain ⟨hk,hs⟩:=hk
 have hmin:(s.take k).length=k:=by rw [List.length_take];omega
 simp only [go_sem]
 refine bD (fun h1=>?_) (fun h1=>?_)
 ·have hk1:k<s.length:=by simp at h1;omega
  have e5:IntKind.i64.wrap ((k:Int)+1)=((k+1:Nat):Int):=by rw [wrap_i64]<;>omega
  simp only [go_sem,ya,Int.toNat_natCast]
  refine ⟨by omega,s.getD k 0,rfl,?_⟩
  refine aq (fun h2=>?_) (fun h2=>?_)
  ·simp only [go_sem,e5]
   refine ⟨k+1,⟨by omega,vz hk1 h2 hs⟩,by omega,?_⟩
   exact Z1
  ·have hw:=rO hk1 h2 hs
   simp only [go_sem,Int.toNat_natCast,hw,hmin]
   exact Z0
 ·have hk1:¬ k<s.length:=by simp at h1;omega
  have hw:=tn hk1 hs
  try simp only [go_sem,Int.toNat_natCast,hw,hmin,zau]
  exact Z0
theorem pj {s p:List UInt8}:iD s p=(decide (p.length≤s.length)&&(s.take p.length==p)):=by
 unfold iD
 rw [Bool.eq_iff_iff]
 simp
 intro h
 have:=congrArg List.length h
 rw [List.length_take] at this
 omega
def qV:List AV→AHeap→(AV→Prop)→Prop
 |[.str s],_,K=>K (.int .i64 ((jW s).length:Int))
 |_,_,_=>False
theorem AF:EntOk Tryz.prog 408 (Ent.pure qV):=by
 refine EntOk.pure fun args H K h=>?_
 unfold qV at h
 split at h
 rotate_left
 ·exact h.elim
 rename_i s
 refine ⟨_,h,?_⟩
 clear h
 refine ACalls.fW aB TblOk.nil Tryz.func408 [.tmp 2] (Nat.le_refl _) (T:=aA []) (h:=fun hcl hlt=>?_)
 clear hlt
 simp only [go_sem,Hk,iN]
 refine ay (A:=Nat) (fun k=>[(0,.str s),(5,.slice .any 1 (sAV syms)),(6,.int .i64 15),(7,.int .i64 (k:Int))]) (fun k=>H) (fun k=>k≤15∧jW s=tp (syms.drop k) s) (fun k=>15 - k) 0 ⟨by omega,rfl⟩ ?_ fun k hk=>?_
 ·(simp only [bkq,enterW,aI,ltF,ne_eq,Nat.reduceEqDiff,reduceCtorEq,cK,gE];try simp (disch:=first|exact Zd|omega) [↓zmk,beq,ybc,ybd,ybe,ag,wk,wk2,wk1,wkM,wkL,au,ybf,byq,biq,ah,hcl,cK,gE];try (repeat' (first|assumption|omega|exact True.intro|refine And.intro ?_ ?_|refine af ?_|refine aa ?_|refine ae ?_ ?_|refine ai ?_ ?_|refine aj ?_|exact AHeap.Le.refl _|refine AHeap.Le.push ?_ _|refine AHeap.Le.del ?_ ?_|(simp only [bt,and_true,true_and,cK,gE];first|done|omega|(simp;done)))))
  trace_state
 obtain ⟨hk,hs⟩:=hk
 simp only [go_sem]
 refine aq (fun h1=>?_) (fun h1=>?_)
 ·have hk2:k<15:=by simp at h1;omega
  have hk1:k<syms.length:=by rw [gE];exact hk2
  have hg:(sAV syms).getD k .junk=.str (syms.getD k []):=wP hk1
  have e5:IntKind.i64.wrap ((k:Int)+1)=((k+1:Nat):Int):=by rw [wrap_i64]<;>omega
  have hgk:syms.getD k []=syms[k]:=by simp [List.getD_eq_getElem?_getD,hk1]
  rw [List.drop_eq_getElem_cons hk1,vM] at hs
  rw [hgk] at hg
  generalize syms[k]=x at *
  simp only [go_sem,Int.toNat_natCast,iN,gE,hg,e5]
  refine ⟨by omega,?_⟩
  refine bD (fun h2=>?_) (fun h2=>?_)
  ·have h2':x.length≤s.length:=by simp at h2;omega
   refine ⟨by omega,aq (fun h3=>?_) (fun h3=>?_)⟩
   ·rw [if_pos (by rw [pj,decide_eq_true h2'];simpa using h3)] at hs
    simp only [go_sem,hs]
    exact Z0
   ·rw [if_neg (by rw [pj,decide_eq_true h2'];simpa using h3)] at hs
    simp only [go_sem,e5]
    refine ⟨k+1,⟨by omega,hs⟩,by omega,?_⟩
    exact Z13
  ·have h2':¬ x.length≤s.length:=by simp at h2;omega
   rw [if_neg (by rw [pj,decide_eq_false h2'];simp)] at hs
   try simp only [go_sem,e5,zau]
   refine ⟨k+1,⟨by omega,hs⟩,by omega,?_⟩
   exact Z13
 ·have hk1:k=15:=by simp at h1;omega
  subst hk1
  have h0:jW s=[]:=by rw [hs];rfl
  simp only [go_sem,h0]
  exact Z0
def ss:List AV→AHeap→(AV→Prop)→Prop
 |[.str s],_,K=>s.length≤140737488355328∧K (nd s)
 |_,_,_=>False
theorem vf {s:List UInt8} {k kd:Nat} {x:List UInt8} (h:lq (s.drop k)=some (kd,x)):(s.take (k+x.length)).drop k=x:=by
 rw [List.drop_take,Nat.add_sub_cancel_left]
 exact (ln h).2.2
theorem Kc {w:List UInt8}:lit (95::w)=none:=by
 unfold lit
 rw [if_neg (by simp [iD]),if_neg (by simp)]
 rfl
theorem El {s w:List UInt8} {c:UInt8} {k:Nat} (h:k<s.length) (hw:c7 (s.drop k)=c::w):s[k]=c∧dm c=true:=by
 have e:s.getD k 0=s[k]:=by simp [List.getD_eq_getElem?_getD,h]
 rw [mL h] at hw
 split at hw
 ·rename_i hp
  rw [e] at hw hp
  injection hw with h1 h2
  subst h1
  exact ⟨rfl,hp⟩
 ·cases hw
theorem Hw:EntOk Tryz.prog 291 (Ent.pure ss):=by
 refine EntOk.pure fun args H K h=>?_
 unfold ss at h
 split at h
 rotate_left
 ·exact h.elim
 rename_i s
 obtain ⟨hsl,hK⟩:=h
 refine ⟨_,hK,?_⟩
 clear hK
 refine ACalls.fW aB (TblOk.cons AF (TblOk.cons G8 (TblOk.cons yS TblOk.nil))) Tryz.func291 [.tmp 2,.tmp 3,.tmp 4] (Nat.le_refl _) (T:=aA []) (h:=fun hcl hlt=>?_)
 clear hlt
 simp only [go_sem,nd]
 refine aq (fun h1=>?_) (fun h1=>?_)
 ·have h1':400<s.length:=by simp at h1;omega
  have e:bZ s=([],0,3):=by unfold bZ;rw [if_pos h1']
  simp only [go_sem,e,eY]
  exact Z14
 have h1':¬ 400<s.length:=by simp at h1;omega
 simp only [go_sem]
 refine ay (A:=Nat × List Tok × Nat × AHeap) (fun a=>[(0,.str s),(5,.slice (.own a.2.2.1) 3 (cU a.2.1)),(6,.int .i64 (a.1:Int))]) (fun a=>a.2.2.2)
  (fun a=>(a.1≤s.length∧a.2.1.length≤a.1∧rest s 0=(a.2.1++(rest s a.1).1,(rest s a.1).2))∧H.Le a.2.2.2∧a.2.2.2.Closed∧H.nx≤a.2.2.1∧a.2.2.2.get a.2.2.1=some (.buf 3 a.2.1.length))
  (fun a=>s.length - a.1) (0,[],H.nx+1,(H.push (.buf 3 0)).push (.buf 3 0)) ⟨⟨by omega,by simp,by simp⟩,?_,?_,by simp,?_⟩ ?_ fun a ha=>?_
 ·exact Z0
 ·(repeat' (first|assumption|omega|exact True.intro|refine And.intro ?_ ?_|refine af ?_|refine aa ?_|refine ae ?_ ?_|refine ai ?_ ?_|refine aj ?_|exact AHeap.Le.refl _|refine AHeap.Le.push ?_ _|refine AHeap.Le.del ?_ ?_|(simp only [bt,and_true,true_and];first|done|omega|(simp;done))))
 ·exact AHeap.get_push_new _ _
 ·exact Z15
 obtain ⟨k,pre,id,Hc⟩:=a
 obtain ⟨⟨hk,hpl,hr⟩,hle,hcc,hid,hst⟩:=ha
 dsimp only at hk hpl hr hle hcc hid hst ⊢
 have hnx:H.nx≤Hc.nx:=hle.nx
 have hid2:id<Hc.nx:=AHeap.get_lt hst
 simp only [go_sem]
 refine aq (fun h2=>?_) (fun h2=>?_)
 ·have hk1:k<s.length:=by simp at h2;omega
  have e5:IntKind.i64.wrap ((k:Int)+1)=((k+1:Nat):Int):=by rw [wrap_i64]<;>omega
  have hsg:s.getD k 0=s[k]:=by simp [List.getD_eq_getElem?_getD,hk1]
  simp only [go_sem,Int.toNat_natCast,List.take_length,hsg]
  refine ⟨by omega,aq (fun h3=>?_) (fun h3=>?_)⟩
  ·have hc:s[k]=32:=by simp at h3;rw [← UInt8.toNat_inj];simp;omega
   rw [ut hk1 hc] at hr
   simp only [go_sem,e5]
   refine ⟨(k+1,pre,id,Hc),⟨⟨by dsimp only;omega,by dsimp only;omega,hr⟩,hle,hcc,hid,hst⟩,by dsimp only;omega,?_⟩
   (simp only [bkq,enterW,aI,ltF,ne_eq,Nat.reduceEqDiff,reduceCtorEq,hcc,hnx,hid2];try simp (disch:=first|exact Zd|omega) [↓zmk,beq,ybc,ybd,ybe,ag,wk,wk2,wk1,wkM,wkL,au,ybf,byq,biq,ah,hcl,hcc,hnx,hid2];try (repeat' (first|assumption|omega|exact True.intro|refine And.intro ?_ ?_|refine af ?_|refine aa ?_|refine ae ?_ ?_|refine ai ?_ ?_|refine aj ?_|exact AHeap.Le.refl _|refine AHeap.Le.push ?_ _|refine AHeap.Le.del ?_ ?_|(simp only [bt,and_true,true_and,hcc,hnx,hid2];first|done|omega|(simp;done)))))
   exact mN hid2
  have n1:(id=Hc.nx)=False:=eq_false (by omega)
  have n2:(id=Hc.nx+1)=False:=eq_false (by omega)
  have n3:(id=Hc.nx+1+1)=False:=eq_false (by omega)
  have hc:s[k]≠32:=fun e=>by rw [e] at h3;simp at h3
  have hsd:(s.drop k).length≤400:=by rw [List.length_drop];omega
  simp only [go_sem,qV,xc,List.take_length,Int.toNat_natCast]
  refine ⟨by omega,by omega,by omega,?_⟩
  cases hw:c7 (s.drop k) with
  |nil =>
   refine aq (fun h4=>by simp at h4) (fun _=>?_)
   simp only [go_sem]
   refine aq (fun h5=>?_) (fun h5=>?_)
   ·have hy:jW (s.drop k)=[]:=by simp at h5;exact h5
    have htk:=vO hw hy
    rw [mX hk1 hc htk,yaj] at hr
    have hsc:=lr h1' hr
    simp only [go_sem,hsc,hy,eY]
    simp (disch:=first|exact Zd|omega) [↓zmk,beq,ybc,ybd,ybe,ag,wk,wk2,wk1,wkM,wkL,au,ybf,hcc,hle,hcl]
    exact (hle.push _).push _
   ·have hy:jW (s.drop k)≠[]:=by intro e;rw [e] at h5;simp at h5
    have htk:=zi hw rfl hy
    obtain ⟨hy1,hy2⟩:=qd hk1 htk
    have hx:=vf htk
    generalize jW (s.drop k)=y at *
    have e6:IntKind.i64.wrap ((k:Int)+(y.length:Int))=((k+y.length:Nat):Int):=by rw [wrap_i64]<;>omega
    simp only [go_sem,Int.toNat_natCast,n1,n2,hst,hx,aO,GJ,e6,ri]
    refine ⟨by omega,by omega,nI hk1 hc htk hpl hr (((bj hle hid).push _).push _) ?_ hid ?_ rfl rfl rfl⟩
    ·exact af (ae (aa hcc) (by simp [znq,znr,znb,znd]))
    ·rw [AHeap.get_push_lt _ _ (by simp [AHeap.push,AHeap.set];omega),AHeap.get_push_lt _ _ (by simp [AHeap.set];omega),AHeap.get_set_same _ _ hid2]
  |cons c w =>
   obtain ⟨hsc0,hpt⟩:=El hk1 hw
   have hcw:(c::w).length≤400:=by rw [← hw];exact Nat.le_trans (List.takeWhile_sublist _).length_le hsd
   have hx:(s.take (k+(w.length+1))).drop k=c::w:=by
    rw [show w.length+1=(c::w).length from rfl,List.drop_take,Nat.add_sub_cancel_left,← hw];exact jZ _
   have hy2:k+(c::w).length≤s.length:=by
    have:=(List.takeWhile_sublist (p:=dm) (l:=s.drop k)).length_le
    rw [show (s.drop k).takeWhile dm=c::w from hw,List.length_drop] at this
    simp only [yaz] at this ⊢;omega
   have e6:IntKind.i64.wrap ((k:Int)+((w.length+1:Nat):Int))=((k+(c::w).length:Nat):Int):=by
    rw [yaz] at hy2 ⊢
    rw [wrap_i64]<;>omega
   refine aq (fun _=>?_) (fun h4=>by simp at h4)
   simp only [go_sem,Int.toNat_natCast,hsg,hsc0]
   refine ⟨by omega,aq (fun h5=>?_) (fun h5=>?_)⟩
   ·have hc95:c=95:=by simp at h5;rw [← UInt8.toNat_inj];simp;omega
    subst hc95
    have htk:=ur hw (by decide) Kc
    rw [mX hk1 hc htk,yaj] at hr
    have hsc:=lr h1' hr
    simp only [go_sem,hsc,eY]
    simp (disch:=first|exact Zd|omega) [↓zmk,beq,ybc,ybd,ybe,ag,wk,wk2,wk1,wkM,wkL,au,ybf,hcc,hle,hcl]
    exact (hle.push _).push _
   have hc95:c≠95:=fun e=>by rw [e] at h5;simp at h5
   simp only [go_sem,Int.toNat_natCast,hsg,hsc0]
   refine ⟨by omega,aq (fun h6=>?_) (fun h6=>?_)⟩
   ·have hlc:dn c=false:=by unfold dn;simp at h6;rw [decide_eq_false (p:=97≤c.toNat) (by omega)];simp
    simp only [go_sem,Int.toNat_natCast,oQ,e6,hx]
    cases hli:lit (c::w) with
    |none =>
     have htk:=ur hw hlc hli
     rw [mX hk1 hc htk,yaj] at hr
     have hsc:=lr h1' hr
     simp only [go_sem,hsc,oX,zAV,zau,zat,eY]
     refine ⟨by simp only [yaz] at hy2;omega,by simp only [yaz] at hcw;omega,?_⟩
     simp (disch:=first|exact Zd|omega) [↓zmk,beq,ybc,ybd,ybe,ag,wk,wk2,wk1,wkM,wkL,au,ybf,hcc,hle,hcl]
     exact ((hle.push _).push _).push _
    |some n =>
     have htk:=yF hw hlc hli
     simp only [go_sem,oX,zAV,zau,zat]
     refine ⟨by simp only [yaz] at hy2;omega,by simp only [yaz] at hcw;omega,aq (fun h7=>by simp at h7;omega) (fun _=>?_)⟩
     simp only [go_sem,Int.toNat_natCast,n1,n2,n3,hst,hx,aO,F3,e6,ri]
     refine ⟨by simp only [yaz] at hy2;omega,by omega,nI hk1 hc htk hpl hr ((((bj hle hid).push _).push _).push _) ?_ hid ?_ rfl rfl rfl⟩
     ·exact af (ae (ae (aa hcc) (by simp [znq,znr,znb,znd])) (by simp [znq,znr,znc,zmi]))
     ·rw [AHeap.get_push_lt _ _ (by simp [AHeap.push,AHeap.set];omega),AHeap.get_push_lt _ _ (by simp [AHeap.push,AHeap.set];omega),AHeap.get_push_lt _ _ (by simp [AHeap.set];omega),AHeap.get_set_same _ _ hid2]
   ·have hlc:dn c=true:=by
     unfold dm at hpt
     simp at h6
     rw [decide_eq_false (p:=c.toNat≤57) (by omega),beq_eq_false_iff_ne.2 hc95] at hpt
     simpa using hpt
    have htk:=zE hw hlc
    simp only [go_sem,Int.toNat_natCast]
    refine aq (fun h7=>by simp at h7;omega) (fun _=>?_)
    simp only [go_sem,Int.toNat_natCast,n1,n2,hst,hx,aO,Gq,e6,ri]
    refine ⟨by simp only [yaz] at hy2;omega,by omega,nI hk1 hc htk hpl hr (((bj hle hid).push _).push _) ?_ hid ?_ rfl rfl rfl⟩
    ·exact af (ae (aa hcc) (by simp [znq,znr,znb,znd]))
    ·rw [AHeap.get_push_lt _ _ (by simp [AHeap.push,AHeap.set];omega),AHeap.get_push_lt _ _ (by simp [AHeap.set];omega),AHeap.get_set_same _ _ hid2]
 ·have hk1:s.length≤k:=by simp at h2;omega
  rw [yx hk1,yaj] at hr
  have hsc:=vD h1' hr
  simp only [go_sem,hsc]
  exact Z16
end Go.AL
open Go Go.AL Go.Proofs
namespace Go.AL
set_option linter.all false
set_option maxRecDepth 10000
theorem Fp:ti Tryz.prog 83=some ⟨.struct [(0,22,false),(1,3,false)],2,32,.agg [.slice .nil 1 [],.int .i64 0]⟩:=by kernel_rfl
attribute [go_sem] Fp
theorem mod_lt {x n:Int} (hn:1≤n):0≤(x.tmod n+n).tmod n∧(x.tmod n+n).tmod n<n:=by
 have h1:=Int.lt_tmod_of_pos x (show 0<n by omega)
 rw [Int.tmod_eq_emod_of_nonneg (by omega)]
 exact ⟨Int.emod_nonneg _ (by omega),Int.emod_lt_of_pos _ (by omega)⟩
theorem Hj {l:List Tok} {k:Nat} (h:k<l.length):(cU l).getD k .junk=xM l[k]:=by simp [cU,List.getD_eq_getElem?_getD,h]
end Go.AL
