/- Contracts and plain laws, a part of the proof; no condition of its own. -/
import Derived.Test.YtcnkffeikmkeiaaGreatN05d
set_option maxHeartbeats 32000000
open List renaming length_cons → yaz, take_succ_cons → yaq, drop_eq_nil_of_le → ybf, length_nil → yba, take_of_length_le → ybc, drop_append → ybd, take_append → ybe, append_nil → yaj, drop_zero → yap
/- Plain laws of tokens; the texts of literals are given as a function. -/
open Go Go.AL
namespace Go.AL
set_option linter.all false
def cp (c:UInt8):Bool:=decide (97≤c.toNat)&&decide (c.toNat≤122)
def cn (c:UInt8):Bool:=cp c||(decide (48≤c.toNat)&&decide (c.toNat≤57))||c==95
def syms:List (List UInt8):=[[38,38],[124,124],[45,62],[61,61],[33,61],[60,61],[62,61],[58,58],[40],[41],[33],[60],[62],[43],[45]]
/-- the symbol that begins a text -/
def pA (l:List (List UInt8)) (s:List UInt8):List UInt8:=match l with
 |[]=>[]
 |x::l=>if fx s x then x else pA l s
def gN (s:List UInt8):List UInt8:=pA syms s
/-- the word that begins a text -/
def ci (s:List UInt8):List UInt8:=s.takeWhile cn
abbrev Tok:=Nat × List UInt8 × Nat
/-- kind and text of the token that begins a text -/
def iM (s:List UInt8):Option (Nat × List UInt8) :=
 match ci s with
 |[]=>match gN s with
  |[]=>none
  |x=>some (3,x)
 |c::w=>if cp c then some (2,c::w) else if (lit (c::w)).isSome then some (1,c::w) else none
/-- the tokens up to the end, or up to the first error and its index -/
def gg:Nat→List UInt8→Nat→List Tok × Option Nat
 |0,_,_=>([],none)
 |_+1,[],_=>([],none)
 |f+1,c::r,k=>if c=32 then gg f r (k+1) else match iM (c::r) with
  |none=>([],some k)
  |some (kd,x)=>((kd,x,k)::(gg f ((c::r).drop x.length) (k+x.length)).1,(gg f ((c::r).drop x.length) (k+x.length)).2)
theorem wP {s:List UInt8}:∀ {l:List (List UInt8)},(∀ x∈l,x≠[])→pA l s≠[]→pA l s∈l∧fx s (pA l s)=true
 |[],_,h=>absurd rfl h
 |x::l,hl,h=>by
  unfold pA at h ⊢
  by_cases hx:fx s x=true
  ·rw [if_pos hx];exact ⟨List.mem_cons_self,hx⟩
  ·rw [if_neg hx] at h ⊢
   obtain ⟨h1,h2⟩:=wP (fun y hy=>hl y (List.mem_cons_of_mem _ hy)) h
   exact ⟨List.mem_cons_of_mem _ h1,h2⟩
theorem CT:∀ x∈syms,x≠[]:=by decide
theorem oP {s p:List UInt8} (h:fx s p=true):p.length≤s.length∧s.take p.length=p:=by
 have h2:=eq_of_beq h
 have:=congrArg List.length h2
 rw [List.length_take] at this
 exact ⟨by omega,h2⟩
theorem gM {p:UInt8→Bool}:∀ (s:List UInt8),s.take (s.takeWhile p).length=s.takeWhile p
 |[]=>rfl
 |c::s=>by
  by_cases h:p c=true
  ·rw [List.takeWhile_cons_of_pos h,yaz,yaq,gM s]
  ·rw [List.takeWhile_cons_of_neg h];rfl
/-- a token's text is what it is cut out of, and is not empty -/
theorem iL {s:List UInt8} {kd:Nat} {x:List UInt8} (h:iM s=some (kd,x)):x≠[]∧x.length≤s.length∧s.take x.length=x:=by
 unfold iM at h
 split at h
 ·split at h
  ·cases h
  ·rename_i y hy
   injection h with h
   injection h with h1 h2
   subst h2
   obtain ⟨_,h4⟩:=wP CT (s:=s) hy
   exact ⟨hy,oP h4⟩
 ·rename_i c w hw
  have hx:x=c::w:=by
   split at h
   ·injection h with h;injection h with h1 h2;exact h2.symm
   ·split at h
    ·injection h with h;injection h with h1 h2;exact h2.symm
    ·cases h
  subst hx
  refine ⟨by simp,?_,?_⟩
  ·rw [← hw];exact (List.takeWhile_sublist _).length_le
  ·rw [← hw];exact gM s
theorem iY:∀ (f g:Nat) (s:List UInt8) (k:Nat),s.length≤f→s.length≤g→gg f s k=gg g s k
 |0,0,_,_,_,_=>rfl
 |0,g+1,s,k,h,_=>by
  have:s=[]:=List.eq_nil_of_length_eq_zero (by omega)
  subst this;rfl
 |f+1,0,s,k,_,h=>by
  have:s=[]:=List.eq_nil_of_length_eq_zero (by omega)
  subst this;rfl
 |f+1,g+1,[],k,_,_=>rfl
 |f+1,g+1,c::r,k,h1,h2=>by
  simp only [yaz] at h1 h2
  unfold gg
  split
  ·exact iY f g r (k+1) (by omega) (by omega)
  ·split
   ·rfl
   ·rename_i kd x hx
    obtain ⟨h3,h4,_⟩:=iL hx
    have h5:0<x.length:=List.length_pos_iff.2 h3
    have e:=iY f g ((c::r).drop x.length) (k+x.length) (by rw [List.length_drop,yaz];omega) (by rw [List.length_drop,yaz];omega)
    rw [e]
/-- the tokens of what lies behind place k -/
def rest (s:List UInt8) (k:Nat):List Tok × Option Nat:=gg s.length (s.drop k) k
theorem uH {s:List UInt8} {k:Nat} (h:s.length≤k):rest s k=([],none):=by
 unfold rest
 rw [ybf h]
 cases s.length<;>rfl
theorem ol {s:List UInt8} {k:Nat} (h:k<s.length) (h2:s[k]=32):rest s k=rest s (k+1):=by
 unfold rest
 obtain ⟨f,hf⟩:∃ f,s.length=f+1:=⟨s.length - 1,by omega⟩
 rw [List.drop_eq_getElem_cons h,h2]
 rw [hf]
 show gg (f+1) (32::s.drop (k+1)) k=_
 rw [gg,if_pos rfl]
 exact iY _ _ _ _ (by rw [List.length_drop];omega) (by rw [List.length_drop];omega)
theorem jH {s:List UInt8} {k:Nat} (h:k<s.length) (h2:s[k]≠32) (h3:iM (s.drop k)=none):rest s k=([],some k):=by
 unfold rest
 obtain ⟨f,hf⟩:∃ f,s.length=f+1:=⟨s.length - 1,by omega⟩
 rw [List.drop_eq_getElem_cons h] at h3 ⊢
 rw [hf]
 rw [gg,if_neg h2,h3]
theorem Ag {s:List UInt8} {k kd:Nat} {x:List UInt8} (h:k<s.length) (h2:s[k]≠32) (h3:iM (s.drop k)=some (kd,x)) :
 rest s k=((kd,x,k)::(rest s (k+x.length)).1,(rest s (k+x.length)).2):=by
 obtain ⟨g1,g2,_⟩:=iL h3
 have g3:0<x.length:=List.length_pos_iff.2 g1
 rw [List.length_drop] at g2
 unfold rest
 obtain ⟨f,hf⟩:∃ f,s.length=f+1:=⟨s.length - 1,by omega⟩
 have e:gg f ((s.drop k).drop x.length) (k+x.length)=gg s.length (s.drop (k+x.length)) (k+x.length):=by
  rw [List.drop_drop]
  exact iY _ _ _ _ (by rw [List.length_drop];omega) (by rw [List.length_drop];omega)
 rw [← e,hf]
 rw [List.drop_eq_getElem_cons h] at h3 ⊢
 rw [gg,if_neg h2,h3]
/-- all tokens, index and error of a text -/
def bx (s:List UInt8):List Tok × Nat × Nat:=if 400<s.length then ([],0,3) else match rest s 0 with
 |(l,none)=>(l,0,0)
 |(_,some k)=>([],k,10)
end Go.AL
open Go Go.AL Go.Proofs
namespace Go.AL
set_option linter.all false
set_option maxRecDepth 10000
def fR:List AV→AHeap→(AV→Prop)→Prop
 |[x],_,K=>∃ c,x=bk c∧K (.int .i64 (dg c:Nat))
 |_,_,_=>False
theorem xY:EntOk Tryz.prog 106 (Ent.pure fR):=by
 refine EntOk.pure fun args H K h=>?_
 unfold fR at h
 split at h
 rotate_left
 ·exact h.elim
 obtain ⟨c,rfl,hK⟩:=h
 refine ⟨_,hK,?_⟩
 clear hK
 refine ACalls.fW aA TblOk.nil Tryz.func106 [.tmp 2] (Nat.le_refl _) (T:=au []) (h:=fun hcl hlt=>?_)
 clear hlt
 have hc:c.toNat<256:=UInt8.toNat_lt c
 have w8:∀ x,IntKind.u8.wrap x=x % 256:=fun x=>by simp [IntKind.wrap,IntKind.signed,IntKind.bits]
 simp only [go_sem,bk]
 refine bf (fun h1=>?_) (fun h1=>?_)
 ·refine aj (fun h2=>?_) (fun h2=>?_)
  ·have hd:dg c=c.toNat - 48:=by unfold dg;rw [if_pos (by simp at h1 h2;omega)]
   have e:IntKind.i64.wrap (IntKind.u8.wrap ((c.toNat:Int) - 48))=(dg c:Nat):=by
    rw [w8,hd];simp at h1 h2;rw [wrap_i64]<;>omega
   simp only [go_sem,e]
   simp (disch:=first|assumption|omega|(simp;done)|(simp;omega)|(simp only [bt,and_true];first|done|omega|(simp;done))) [↓zmk,beq,ybc,ybd,ybe,ae,wk,wk2,wk1,wkM,wkL,al,ybf,hcl]
  ·simp only [go_sem]
   refine bf (fun h3=>?_) (fun h3=>?_)
   ·refine aj (fun h4=>?_) (fun h4=>?_)
    ·have hd:dg c=c.toNat - 87:=by unfold dg;simp at h1 h2 h3 h4;rw [if_neg (by omega),if_pos (by omega)]
     have e:IntKind.i64.wrap (IntKind.i64.wrap (IntKind.u8.wrap ((c.toNat:Int) - 97))+10)=(dg c:Nat):=by
      rw [w8,hd];simp at h1 h2 h3 h4
      have e1:IntKind.i64.wrap (((c.toNat:Int) - 97) % 256)=(c.toNat:Int) - 97:=by rw [wrap_i64]<;>omega
      rw [e1,wrap_i64]<;>omega
     simp only [go_sem,e]
     simp (disch:=first|assumption|omega|(simp;done)|(simp;omega)|(simp only [bt,and_true];first|done|omega|(simp;done))) [↓zmk,beq,ybc,ybd,ybe,ae,wk,wk2,wk1,wkM,wkL,al,ybf,hcl]
    ·have hd:dg c=99:=by unfold dg;simp at h1 h2 h3 h4;rw [if_neg (by omega),if_neg (by omega)]
     simp only [go_sem,hd]
     simp (disch:=first|assumption|omega|(simp;done)|(simp;omega)|(simp only [bt,and_true];first|done|omega|(simp;done))) [↓zmk,beq,ybc,ybd,ybe,ae,wk,wk2,wk1,wkM,wkL,al,ybf,hcl]
   ·have hd:dg c=99:=by unfold dg;simp at h1 h2 h3;rw [if_neg (by omega),if_neg (by omega)]
    try simp only [go_sem,zau,hd]
    simp (disch:=first|assumption|omega|(simp;done)|(simp;omega)|(simp only [bt,and_true];first|done|omega|(simp;done))) [↓zmk,beq,ybc,ybd,ybe,ae,wk,wk2,wk1,wkM,wkL,al,ybf,hcl]
 ·try simp only [go_sem,zau]
  refine bf (fun h3=>?_) (fun h3=>?_)
  ·refine aj (fun h4=>?_) (fun h4=>?_)
   ·simp at h1 h3;omega
   ·have hd:dg c=99:=by unfold dg;simp at h1 h3 h4;rw [if_neg (by omega),if_neg (by omega)]
    simp only [go_sem,hd]
    simp (disch:=first|assumption|omega|(simp;done)|(simp;omega)|(simp only [bt,and_true];first|done|omega|(simp;done))) [↓zmk,beq,ybc,ybd,ybe,ae,wk,wk2,wk1,wkM,wkL,al,ybf,hcl]
  ·have hd:dg c=99:=by unfold dg;simp at h1 h3;rw [if_neg (by omega),if_neg (by omega)]
   try simp only [go_sem,zau,hd]
   simp (disch:=first|assumption|omega|(simp;done)|(simp;omega)|(simp only [bt,and_true];first|done|omega|(simp;done))) [↓zmk,beq,ybc,ybd,ybe,ae,wk,wk2,wk1,wkM,wkL,al,ybf,hcl]
def kZ (o:Option Nat):AV:=match o with
 |some n=>.tup [zAV n,.bool true]
 |none=>.tup [zAV 0,.bool false]
theorem AO {s:List UInt8} (h:¬ (2<s.length∧fx s [48,120]=true)):lit s=if s=[] then none else cW 10 0 s:=by
 unfold lit
 by_cases hp:fx s [48,120]=true
 ·rw [if_pos hp]
  have hl:s.length=2:=by
   have:=congrArg List.length (eq_of_beq hp)
   rw [List.length_take] at this
   simp at this
   have:¬ 2<s.length:=fun h2=>h ⟨h2,hp⟩
   omega
  have hs:s=[48,120]:=by
   have:=eq_of_beq hp
   rwa [ybc (by simp;omega)] at this
  subst hs
  decide +kernel
 ·rw [if_neg hp]
def k8:List AV→AHeap→(AV→Prop)→Prop
 |[.str s],_,K=>(s.length≤140737488355328)∧K (kZ (lit s))
 |_,_,_=>False
theorem ul:EntOk Tryz.prog 63 (Ent.pure k8):=by
 refine EntOk.pure fun args H K h=>?_
 unfold k8 at h
 split at h
 rotate_left
 ·exact h.elim
 rename_i s
 obtain ⟨hl,hK⟩:=h
 refine ⟨_,hK,?_⟩
 refine ACalls.fW aA (TblOk.cons vF (TblOk.cons xY (TblOk.cons nV (TblOk.cons zy TblOk.nil)))) Tryz.func63 [.cell 2 158,.tmp 3] (Nat.le_refl _) (T:=au [(15,[[],[],[],[],[],[4],[0,4,5],[0,4,5,6]])]) (h:=fun hcl hlt=>?_)
 clear hlt hK
 simp only [go_sem,db,eZ]
 refine bf (fun h1=>?_) (fun h1=>?_)
 ·have hl2:2<s.length:=by simp at h1;omega
  refine ⟨by omega,aj (fun h0=>?_) (fun h0=>?_)⟩
  ·have hp:fx s [48,120]=true:=by unfold fx;simpa using h0
   have hr:lit s=if s.drop 2=[] then none else cW 16 0 (s.drop 2):=by unfold lit;rw [if_pos hp]
   try simp only [go_sem,db,eZ,Int.toNat_natCast,List.take_length]
   refine ⟨by omega,by omega,?_⟩
   have hl':(s.drop 2).length≤140737488355328:=by rw [List.length_drop];omega
   rw [hr]
   clear hr hl
   generalize s.drop 2=b at *
   refine av (A:=Nat × Nat) (fun x=>[(0,.str b),(2,.ptr H.nx 0),(4,.int .i64 16),(5,.ptr (H.nx+1) 0),(6,.int .i64 (x.1:Int))])
    (fun x=>(H.push (.cells [.bool false,.slice .nil 1 []])).push (.cells [.bool (decide ((x.2:Int)<0)),.slice .any 1 (bI (bE ((x.2:Int)).natAbs))]))
    (fun x=>x.1≤b.length∧x.2<2^128∧cW 16 0 b=cW 16 x.2 (b.drop x.1)) (fun x=>b.length - x.1) (0,0) ⟨by omega,by decide,rfl⟩ ?_ fun x hI=>?_
   ·(simp only [bkq,enterW,aS,ltF,ne_eq,Nat.reduceEqDiff,reduceCtorEq,aV,Int.natAbs_zero];try simp (disch:=first|assumption|omega|(simp;done)|(simp;omega)|(simp only [bt,and_true];first|done|omega|(simp;done))) [↓zmk,beq,ybc,ybd,ybe,ae,wk,wk2,wk1,wkM,wkL,al,ybf,byq,biq,af,hcl,aV,Int.natAbs_zero];try (repeat' (first|assumption|omega|exact True.intro|refine And.intro ?_ ?_|refine ag ?_|refine aa ?_|refine ac ?_ ?_|refine ah ?_ ?_|refine ai ?_|exact AHeap.Le.refl _|refine AHeap.Le.push ?_ _|refine AHeap.Le.del ?_ ?_|(simp only [bt,and_true,true_and,aV,Int.natAbs_zero];first|done|omega|(simp;done)))))
   obtain ⟨k,n⟩:=x
   obtain ⟨hk,hn,hl2⟩:=hI
   dsimp only at *
   simp only [go_sem,byq]
   refine aj (fun h2=>?_) (fun h2=>?_)
   ·have h2':k<b.length:=by simpa using h2
    rw [List.drop_eq_getElem_cons h2'] at hl2
    have hg:AV.int .u8 ((b.getD k 0).toNat:Int)=bk b[k]:=by simp [List.getD_eq_getElem?_getD,h2',bk]
    have e5:IntKind.i64.wrap ((k:Int)+1)=((k+1:Nat):Int):=by rw [wrap_i64]<;>omega
    have hbn:b≠[]:=by intro h;subst h;simp at h2'
    simp only [cW] at hl2
    generalize b[k]=c at *
    have hc:dg c≤99:=by unfold dg;have:=UInt8.toNat_lt c;split<;>(try split)<;>omega
    simp only [go_sem,byq,hg,fR,db,eZ]
    refine ⟨by omega,c,rfl,?_⟩
    simp only [go_sem,byq]
    refine aj (fun h3=>?_) (fun h3=>?_)
    ·have hd:¬ dg c<16:=by simp at h3;omega
     rw [if_neg hd] at hl2
     simp only [go_sem,byq,db,eZ,hl2,if_neg hbn,kZ]
     refine ⟨by omega,?_⟩
     simp (disch:=first|assumption|omega|(simp;done)|(simp;omega)|(simp only [bt,and_true];first|done|omega|(simp;done))) [↓zmk,beq,ybc,ybd,ybe,ae,wk,wk2,wk1,wkM,wkL,al,ybf,hcl]
    ·have hd:dg c<16:=by simp at h3;omega
     rw [if_pos hd] at hl2
     simp only [go_sem,byq,db,eZ]
     refine ⟨by omega,?_⟩
     refine av (A:=Nat) (fun j=>[(0,.str b),(2,.ptr H.nx 0),(4,.int .i64 16),(5,.ptr (H.nx+1) 0),(6,.int .i64 (k:Int)),(7,.ptr (H.nx+1+1) 0),(8,.int .i64 (j:Int))])
      (fun j=>((H.push (.cells [.bool false,.slice .nil 1 []])).push (.cells [.bool (decide ((n:Int)<0)),.slice .any 1 (bI (bE ((n:Int)).natAbs))])).push (.cells [.bool (decide (((n*j:Nat):Int)<0)),.slice .any 1 (bI (bE (((n*j:Nat):Int)).natAbs))]))
      (fun j=>j≤16) (fun j=>16 - j) 0 (by omega) ?_ fun j hj=>?_
     ·(simp only [bkq,enterW,aS,ltF,ne_eq,Nat.reduceEqDiff,reduceCtorEq,aV,Int.natAbs_zero,Nat.mul_zero];try simp (disch:=first|assumption|omega|(simp;done)|(simp;omega)|(simp only [bt,and_true];first|done|omega|(simp;done))) [↓zmk,beq,ybc,ybd,ybe,ae,wk,wk2,wk1,wkM,wkL,al,ybf,byq,biq,af,hcl,aV,Int.natAbs_zero,Nat.mul_zero];try (repeat' (first|assumption|omega|exact True.intro|refine And.intro ?_ ?_|refine ag ?_|refine aa ?_|refine ac ?_ ?_|refine ah ?_ ?_|refine ai ?_|exact AHeap.Le.refl _|refine AHeap.Le.push ?_ _|refine AHeap.Le.del ?_ ?_|(simp only [bt,and_true,true_and,aV,Int.natAbs_zero,Nat.mul_zero];first|done|omega|(simp;done)))))
     have hnj:n*j<2^133:=by
      have:n*j≤n*16:=Nat.mul_le_mul_left n (by omega)
      omega
     have hsj:cQ ((n*j:Nat):Int):=cO 60 (by rw [Int.natAbs_natCast];omega) (by decide)
     have hsn:cQ (n:Int):=cO 60 (by rw [Int.natAbs_natCast];omega) (by decide)
     simp only [go_sem,byq]
     refine aj (fun h4=>?_) (fun h4=>?_)
     ·have h4':j<16:=by simp at h4;omega
      have ej:IntKind.i64.wrap ((j:Int)+1)=((j+1:Nat):Int):=by rw [wrap_i64]<;>omega
      have en:((n*j:Nat):Int)+(n:Int)=((n*(j+1):Nat):Int):=by rw [Nat.mul_add];omega
      simp only [go_sem,byq,fq]
      refine ⟨((n*j:Nat):Int),(n:Int),⟨rfl,rfl,hsj,hsn⟩,?_⟩
      simp only [go_sem,byq,zAV,en,ej]
      refine ⟨j+1,by omega,by omega,?_⟩
      (simp only [bkq,enterW,aS,ltF,ne_eq,Nat.reduceEqDiff,reduceCtorEq];try simp (disch:=first|assumption|omega|(simp;done)|(simp;omega)|(simp only [bt,and_true];first|done|omega|(simp;done))) [↓zmk,beq,ybc,ybd,ybe,ae,wk,wk2,wk1,wkM,wkL,al,ybf,byq,biq,af,hcl];try (repeat' (first|assumption|omega|exact True.intro|refine And.intro ?_ ?_|refine ag ?_|refine aa ?_|refine ac ?_ ?_|refine ah ?_ ?_|refine ai ?_|exact AHeap.Le.refl _|refine AHeap.Le.push ?_ _|refine AHeap.Le.del ?_ ?_|(simp only [bt,and_true,true_and];first|done|omega|(simp;done)))))
     ·have h4':j=16:=by simp at h4;omega
      subst h4'
      have en:((n*16:Nat):Int)+((dg c:Nat):Int)=((n*16+dg c:Nat):Int):=by omega
      have hsd:cQ ((dg c:Nat):Int):=cO 10 (by rw [Int.natAbs_natCast];omega) (by decide)
      have hsf:cQ ((n*16+dg c:Nat):Int):=cO 60 (by rw [Int.natAbs_natCast];omega) (by decide)
      obtain ⟨z,hz2⟩:∃ z:Int,z=((n*16+dg c:Nat):Int):=⟨_,rfl⟩
      rw [← hz2] at en hsf
      obtain ⟨y,hy⟩:∃ y:Int,y=((dg c:Nat):Int):=⟨_,rfl⟩
      simp only [go_sem,byq,fq,fR,db,hg]
      refine ⟨by omega,c,rfl,?_⟩
      simp only [go_sem,byq,db,fq]
      refine ⟨by omega,((n*16:Nat):Int),((dg c:Nat):Int),⟨rfl,rfl,hsj,hsd⟩,?_⟩
      refine gF (a:=n*16+dg c) (b:=2^128) (fun hf=>?_) (fun hf=>?_)
      ·rw [if_pos hf] at hl2
       have hft:decide (0≤z∧z<2^128)=true:=decide_eq_true (by omega)
       simp only [go_sem,byq,zAV,en,hJ]
       refine ⟨z,⟨rfl,hsf⟩,?_⟩
       simp only [go_sem,byq,zau,hft,e5]
       refine ⟨(k+1,n*16+dg c),⟨by omega,hf,hl2⟩,by omega,?_⟩
       (simp only [bkq,enterW,aS,ltF,ne_eq,Nat.reduceEqDiff,reduceCtorEq,hz2];try simp (disch:=first|assumption|omega|(simp;done)|(simp;omega)|(simp only [bt,and_true];first|done|omega|(simp;done))) [↓zmk,beq,ybc,ybd,ybe,ae,wk,wk2,wk1,wkM,wkL,al,ybf,byq,biq,af,hcl,hz2];try (repeat' (first|assumption|omega|exact True.intro|refine And.intro ?_ ?_|refine ag ?_|refine aa ?_|refine ac ?_ ?_|refine ah ?_ ?_|refine ai ?_|exact AHeap.Le.refl _|refine AHeap.Le.push ?_ _|refine AHeap.Le.del ?_ ?_|(simp only [bt,and_true,true_and,hz2];first|done|omega|(simp;done)))))
      ·rw [if_neg (Nat.not_lt.2 hf)] at hl2
       have hft:decide (0≤z∧z<2^128)=false:=decide_eq_false (by omega)
       simp only [go_sem,byq,zAV,en,hJ]
       refine ⟨z,⟨rfl,hsf⟩,?_⟩
       simp only [go_sem,byq,zat,hft,db,eZ,hl2,if_neg hbn,kZ]
       refine ⟨by omega,?_⟩
       simp (disch:=first|assumption|omega|(simp;done)|(simp;omega)|(simp only [bt,and_true];first|done|omega|(simp;done))) [↓zmk,beq,ybc,ybd,ybe,ae,wk,wk2,wk1,wkM,wkL,al,ybf,hcl]
   ·have h2':k=b.length:=by simp at h2;omega
    subst h2'
    rw [List.drop_length] at hl2
    simp only [cW] at hl2
    simp only [go_sem,byq]
    by_cases hbn:b=[]
    ·subst hbn
     have hn0:n=0:=by simp only [cW] at hl2;exact (Option.some.inj hl2).symm
     subst hn0
     have hb0:(([]:List UInt8)==[])=true:=rfl
     simp only [go_sem,byq,if_pos,kZ,eZ,hb0]
     simp (disch:=first|assumption|omega|(simp;done)|(simp;omega)|(simp only [bt,and_true];first|done|omega|(simp;done))) [↓zmk,beq,ybc,ybd,ybe,ae,wk,wk2,wk1,wkM,wkL,al,ybf,hcl,aV,cN]
    ·have hb0:(b==[])=false:=by simp [hbn]
     simp only [go_sem,byq,if_neg hbn,kZ,hl2,zAV,hb0]
     simp (disch:=first|assumption|omega|(simp;done)|(simp;omega)|(simp only [bt,and_true];first|done|omega|(simp;done))) [↓zmk,beq,ybc,ybd,ybe,ae,wk,wk2,wk1,wkM,wkL,al,ybf,hcl]
  ·have hr:lit s=if s=[] then none else cW 10 0 s:=AO fun h=>by
    have:fx s [48,120]=false:=by unfold fx;simpa using h0
    rw [this] at h;exact absurd h.2 (by simp)
   try simp only [go_sem,db,eZ,Int.toNat_natCast,List.take_length,zau]
   refine ⟨by omega,?_⟩
   have hl':(s).length≤140737488355328:=by exact hl
   rw [hr]
   clear hr hl
   generalize s=b at *
   refine av (A:=Nat × Nat) (fun x=>[(0,.str b),(2,.ptr H.nx 0),(4,.int .i64 10),(5,.ptr (H.nx+1) 0),(6,.int .i64 (x.1:Int))])
    (fun x=>(H.push (.cells [.bool false,.slice .nil 1 []])).push (.cells [.bool (decide ((x.2:Int)<0)),.slice .any 1 (bI (bE ((x.2:Int)).natAbs))]))
    (fun x=>x.1≤b.length∧x.2<2^128∧cW 10 0 b=cW 10 x.2 (b.drop x.1)) (fun x=>b.length - x.1) (0,0) ⟨by omega,by decide,rfl⟩ ?_ fun x hI=>?_
   ·(simp only [bkq,enterW,aS,ltF,ne_eq,Nat.reduceEqDiff,reduceCtorEq,aV,Int.natAbs_zero];try simp (disch:=first|assumption|omega|(simp;done)|(simp;omega)|(simp only [bt,and_true];first|done|omega|(simp;done))) [↓zmk,beq,ybc,ybd,ybe,ae,wk,wk2,wk1,wkM,wkL,al,ybf,byq,biq,af,hcl,aV,Int.natAbs_zero];try (repeat' (first|assumption|omega|exact True.intro|refine And.intro ?_ ?_|refine ag ?_|refine aa ?_|refine ac ?_ ?_|refine ah ?_ ?_|refine ai ?_|exact AHeap.Le.refl _|refine AHeap.Le.push ?_ _|refine AHeap.Le.del ?_ ?_|(simp only [bt,and_true,true_and,aV,Int.natAbs_zero];first|done|omega|(simp;done)))))
   obtain ⟨k,n⟩:=x
   obtain ⟨hk,hn,hl2⟩:=hI
   dsimp only at *
   simp only [go_sem,byq]
   refine aj (fun h2=>?_) (fun h2=>?_)
   ·have h2':k<b.length:=by simpa using h2
    rw [List.drop_eq_getElem_cons h2'] at hl2
    have hg:AV.int .u8 ((b.getD k 0).toNat:Int)=bk b[k]:=by simp [List.getD_eq_getElem?_getD,h2',bk]
    have e5:IntKind.i64.wrap ((k:Int)+1)=((k+1:Nat):Int):=by rw [wrap_i64]<;>omega
    have hbn:b≠[]:=by intro h;subst h;simp at h2'
    simp only [cW] at hl2
    generalize b[k]=c at *
    have hc:dg c≤99:=by unfold dg;have:=UInt8.toNat_lt c;split<;>(try split)<;>omega
    simp only [go_sem,byq,hg,fR,db,eZ]
    refine ⟨by omega,c,rfl,?_⟩
    simp only [go_sem,byq]
    refine aj (fun h3=>?_) (fun h3=>?_)
    ·have hd:¬ dg c<10:=by simp at h3;omega
     rw [if_neg hd] at hl2
     simp only [go_sem,byq,db,eZ,hl2,if_neg hbn,kZ]
     refine ⟨by omega,?_⟩
     simp (disch:=first|assumption|omega|(simp;done)|(simp;omega)|(simp only [bt,and_true];first|done|omega|(simp;done))) [↓zmk,beq,ybc,ybd,ybe,ae,wk,wk2,wk1,wkM,wkL,al,ybf,hcl]
    ·have hd:dg c<10:=by simp at h3;omega
     rw [if_pos hd] at hl2
     simp only [go_sem,byq,db,eZ]
     refine ⟨by omega,?_⟩
     refine av (A:=Nat) (fun j=>[(0,.str b),(2,.ptr H.nx 0),(4,.int .i64 10),(5,.ptr (H.nx+1) 0),(6,.int .i64 (k:Int)),(7,.ptr (H.nx+1+1) 0),(8,.int .i64 (j:Int))])
      (fun j=>((H.push (.cells [.bool false,.slice .nil 1 []])).push (.cells [.bool (decide ((n:Int)<0)),.slice .any 1 (bI (bE ((n:Int)).natAbs))])).push (.cells [.bool (decide (((n*j:Nat):Int)<0)),.slice .any 1 (bI (bE (((n*j:Nat):Int)).natAbs))]))
      (fun j=>j≤10) (fun j=>10 - j) 0 (by omega) ?_ fun j hj=>?_
     ·(simp only [bkq,enterW,aS,ltF,ne_eq,Nat.reduceEqDiff,reduceCtorEq,aV,Int.natAbs_zero,Nat.mul_zero];try simp (disch:=first|assumption|omega|(simp;done)|(simp;omega)|(simp only [bt,and_true];first|done|omega|(simp;done))) [↓zmk,beq,ybc,ybd,ybe,ae,wk,wk2,wk1,wkM,wkL,al,ybf,byq,biq,af,hcl,aV,Int.natAbs_zero,Nat.mul_zero];try (repeat' (first|assumption|omega|exact True.intro|refine And.intro ?_ ?_|refine ag ?_|refine aa ?_|refine ac ?_ ?_|refine ah ?_ ?_|refine ai ?_|exact AHeap.Le.refl _|refine AHeap.Le.push ?_ _|refine AHeap.Le.del ?_ ?_|(simp only [bt,and_true,true_and,aV,Int.natAbs_zero,Nat.mul_zero];first|done|omega|(simp;done)))))
     have hnj:n*j<2^133:=by
      have:n*j≤n*16:=Nat.mul_le_mul_left n (by omega)
      omega
     have hsj:cQ ((n*j:Nat):Int):=cO 60 (by rw [Int.natAbs_natCast];omega) (by decide)
     have hsn:cQ (n:Int):=cO 60 (by rw [Int.natAbs_natCast];omega) (by decide)
     simp only [go_sem,byq]
     refine aj (fun h4=>?_) (fun h4=>?_)
     ·have h4':j<10:=by simp at h4;omega
      have ej:IntKind.i64.wrap ((j:Int)+1)=((j+1:Nat):Int):=by rw [wrap_i64]<;>omega
      have en:((n*j:Nat):Int)+(n:Int)=((n*(j+1):Nat):Int):=by rw [Nat.mul_add];omega
      simp only [go_sem,byq,fq]
      refine ⟨((n*j:Nat):Int),(n:Int),⟨rfl,rfl,hsj,hsn⟩,?_⟩
      simp only [go_sem,byq,zAV,en,ej]
      refine ⟨j+1,by omega,by omega,?_⟩
      (simp only [bkq,enterW,aS,ltF,ne_eq,Nat.reduceEqDiff,reduceCtorEq];try simp (disch:=first|assumption|omega|(simp;done)|(simp;omega)|(simp only [bt,and_true];first|done|omega|(simp;done))) [↓zmk,beq,ybc,ybd,ybe,ae,wk,wk2,wk1,wkM,wkL,al,ybf,byq,biq,af,hcl];try (repeat' (first|assumption|omega|exact True.intro|refine And.intro ?_ ?_|refine ag ?_|refine aa ?_|refine ac ?_ ?_|refine ah ?_ ?_|refine ai ?_|exact AHeap.Le.refl _|refine AHeap.Le.push ?_ _|refine AHeap.Le.del ?_ ?_|(simp only [bt,and_true,true_and];first|done|omega|(simp;done)))))
     ·have h4':j=10:=by simp at h4;omega
      subst h4'
      have en:((n*10:Nat):Int)+((dg c:Nat):Int)=((n*10+dg c:Nat):Int):=by omega
      have hsd:cQ ((dg c:Nat):Int):=cO 10 (by rw [Int.natAbs_natCast];omega) (by decide)
      have hsf:cQ ((n*10+dg c:Nat):Int):=cO 60 (by rw [Int.natAbs_natCast];omega) (by decide)
      obtain ⟨z,hz2⟩:∃ z:Int,z=((n*10+dg c:Nat):Int):=⟨_,rfl⟩
      rw [← hz2] at en hsf
      obtain ⟨y,hy⟩:∃ y:Int,y=((dg c:Nat):Int):=⟨_,rfl⟩
      simp only [go_sem,byq,fq,fR,db,hg]
      refine ⟨by omega,c,rfl,?_⟩
      simp only [go_sem,byq,db,fq]
      refine ⟨by omega,((n*10:Nat):Int),((dg c:Nat):Int),⟨rfl,rfl,hsj,hsd⟩,?_⟩
      refine gF (a:=n*10+dg c) (b:=2^128) (fun hf=>?_) (fun hf=>?_)
      ·rw [if_pos hf] at hl2
       have hft:decide (0≤z∧z<2^128)=true:=decide_eq_true (by omega)
       simp only [go_sem,byq,zAV,en,hJ]
       refine ⟨z,⟨rfl,hsf⟩,?_⟩
       simp only [go_sem,byq,zau,hft,e5]
       refine ⟨(k+1,n*10+dg c),⟨by omega,hf,hl2⟩,by omega,?_⟩
       (simp only [bkq,enterW,aS,ltF,ne_eq,Nat.reduceEqDiff,reduceCtorEq,hz2];try simp (disch:=first|assumption|omega|(simp;done)|(simp;omega)|(simp only [bt,and_true];first|done|omega|(simp;done))) [↓zmk,beq,ybc,ybd,ybe,ae,wk,wk2,wk1,wkM,wkL,al,ybf,byq,biq,af,hcl,hz2];try (repeat' (first|assumption|omega|exact True.intro|refine And.intro ?_ ?_|refine ag ?_|refine aa ?_|refine ac ?_ ?_|refine ah ?_ ?_|refine ai ?_|exact AHeap.Le.refl _|refine AHeap.Le.push ?_ _|refine AHeap.Le.del ?_ ?_|(simp only [bt,and_true,true_and,hz2];first|done|omega|(simp;done)))))
      ·rw [if_neg (Nat.not_lt.2 hf)] at hl2
       have hft:decide (0≤z∧z<2^128)=false:=decide_eq_false (by omega)
       simp only [go_sem,byq,zAV,en,hJ]
       refine ⟨z,⟨rfl,hsf⟩,?_⟩
       simp only [go_sem,byq,zat,hft,db,eZ,hl2,if_neg hbn,kZ]
       refine ⟨by omega,?_⟩
       simp (disch:=first|assumption|omega|(simp;done)|(simp;omega)|(simp only [bt,and_true];first|done|omega|(simp;done))) [↓zmk,beq,ybc,ybd,ybe,ae,wk,wk2,wk1,wkM,wkL,al,ybf,hcl]
   ·have h2':k=b.length:=by simp at h2;omega
    subst h2'
    rw [List.drop_length] at hl2
    simp only [cW] at hl2
    simp only [go_sem,byq]
    by_cases hbn:b=[]
    ·subst hbn
     have hn0:n=0:=by simp only [cW] at hl2;exact (Option.some.inj hl2).symm
     subst hn0
     have hb0:(([]:List UInt8)==[])=true:=rfl
     simp only [go_sem,byq,if_pos,kZ,eZ,hb0]
     simp (disch:=first|assumption|omega|(simp;done)|(simp;omega)|(simp only [bt,and_true];first|done|omega|(simp;done))) [↓zmk,beq,ybc,ybd,ybe,ae,wk,wk2,wk1,wkM,wkL,al,ybf,hcl,aV,cN]
    ·have hb0:(b==[])=false:=by simp [hbn]
     simp only [go_sem,byq,if_neg hbn,kZ,hl2,zAV,hb0]
     simp (disch:=first|assumption|omega|(simp;done)|(simp;omega)|(simp only [bt,and_true];first|done|omega|(simp;done))) [↓zmk,beq,ybc,ybd,ybe,ae,wk,wk2,wk1,wkM,wkL,al,ybf,hcl]
 ·have hr:lit s=if s=[] then none else cW 10 0 s:=AO fun h=>by
   have:¬ 2<s.length:=by simp at h1;omega
   exact this h.1
  try simp only [go_sem,db,eZ,Int.toNat_natCast,List.take_length,zau]
  refine ⟨by omega,?_⟩
  have hl':(s).length≤140737488355328:=by exact hl
  rw [hr]
  clear hr hl
  generalize s=b at *
  refine av (A:=Nat × Nat) (fun x=>[(0,.str b),(2,.ptr H.nx 0),(4,.int .i64 10),(5,.ptr (H.nx+1) 0),(6,.int .i64 (x.1:Int))])
   (fun x=>(H.push (.cells [.bool false,.slice .nil 1 []])).push (.cells [.bool (decide ((x.2:Int)<0)),.slice .any 1 (bI (bE ((x.2:Int)).natAbs))]))
   (fun x=>x.1≤b.length∧x.2<2^128∧cW 10 0 b=cW 10 x.2 (b.drop x.1)) (fun x=>b.length - x.1) (0,0) ⟨by omega,by decide,rfl⟩ ?_ fun x hI=>?_
  ·(simp only [bkq,enterW,aS,ltF,ne_eq,Nat.reduceEqDiff,reduceCtorEq,aV,Int.natAbs_zero];try simp (disch:=first|assumption|omega|(simp;done)|(simp;omega)|(simp only [bt,and_true];first|done|omega|(simp;done))) [↓zmk,beq,ybc,ybd,ybe,ae,wk,wk2,wk1,wkM,wkL,al,ybf,byq,biq,af,hcl,aV,Int.natAbs_zero];try (repeat' (first|assumption|omega|exact True.intro|refine And.intro ?_ ?_|refine ag ?_|refine aa ?_|refine ac ?_ ?_|refine ah ?_ ?_|refine ai ?_|exact AHeap.Le.refl _|refine AHeap.Le.push ?_ _|refine AHeap.Le.del ?_ ?_|(simp only [bt,and_true,true_and,aV,Int.natAbs_zero];first|done|omega|(simp;done)))))
  obtain ⟨k,n⟩:=x
  obtain ⟨hk,hn,hl2⟩:=hI
  dsimp only at *
  simp only [go_sem,byq]
  refine aj (fun h2=>?_) (fun h2=>?_)
  ·have h2':k<b.length:=by simpa using h2
   rw [List.drop_eq_getElem_cons h2'] at hl2
   have hg:AV.int .u8 ((b.getD k 0).toNat:Int)=bk b[k]:=by simp [List.getD_eq_getElem?_getD,h2',bk]
   have e5:IntKind.i64.wrap ((k:Int)+1)=((k+1:Nat):Int):=by rw [wrap_i64]<;>omega
   have hbn:b≠[]:=by intro h;subst h;simp at h2'
   simp only [cW] at hl2
   generalize b[k]=c at *
   have hc:dg c≤99:=by unfold dg;have:=UInt8.toNat_lt c;split<;>(try split)<;>omega
   simp only [go_sem,byq,hg,fR,db,eZ]
   refine ⟨by omega,c,rfl,?_⟩
   simp only [go_sem,byq]
   refine aj (fun h3=>?_) (fun h3=>?_)
   ·have hd:¬ dg c<10:=by simp at h3;omega
    rw [if_neg hd] at hl2
    simp only [go_sem,byq,db,eZ,hl2,if_neg hbn,kZ]
    refine ⟨by omega,?_⟩
    simp (disch:=first|assumption|omega|(simp;done)|(simp;omega)|(simp only [bt,and_true];first|done|omega|(simp;done))) [↓zmk,beq,ybc,ybd,ybe,ae,wk,wk2,wk1,wkM,wkL,al,ybf,hcl]
   ·have hd:dg c<10:=by simp at h3;omega
    rw [if_pos hd] at hl2
    simp only [go_sem,byq,db,eZ]
    refine ⟨by omega,?_⟩
    refine av (A:=Nat) (fun j=>[(0,.str b),(2,.ptr H.nx 0),(4,.int .i64 10),(5,.ptr (H.nx+1) 0),(6,.int .i64 (k:Int)),(7,.ptr (H.nx+1+1) 0),(8,.int .i64 (j:Int))])
     (fun j=>((H.push (.cells [.bool false,.slice .nil 1 []])).push (.cells [.bool (decide ((n:Int)<0)),.slice .any 1 (bI (bE ((n:Int)).natAbs))])).push (.cells [.bool (decide (((n*j:Nat):Int)<0)),.slice .any 1 (bI (bE (((n*j:Nat):Int)).natAbs))]))
     (fun j=>j≤10) (fun j=>10 - j) 0 (by omega) ?_ fun j hj=>?_
    ·(simp only [bkq,enterW,aS,ltF,ne_eq,Nat.reduceEqDiff,reduceCtorEq,aV,Int.natAbs_zero,Nat.mul_zero];try simp (disch:=first|assumption|omega|(simp;done)|(simp;omega)|(simp only [bt,and_true];first|done|omega|(simp;done))) [↓zmk,beq,ybc,ybd,ybe,ae,wk,wk2,wk1,wkM,wkL,al,ybf,byq,biq,af,hcl,aV,Int.natAbs_zero,Nat.mul_zero];try (repeat' (first|assumption|omega|exact True.intro|refine And.intro ?_ ?_|refine ag ?_|refine aa ?_|refine ac ?_ ?_|refine ah ?_ ?_|refine ai ?_|exact AHeap.Le.refl _|refine AHeap.Le.push ?_ _|refine AHeap.Le.del ?_ ?_|(simp only [bt,and_true,true_and,aV,Int.natAbs_zero,Nat.mul_zero];first|done|omega|(simp;done)))))
    have hnj:n*j<2^133:=by
     have:n*j≤n*16:=Nat.mul_le_mul_left n (by omega)
     omega
    have hsj:cQ ((n*j:Nat):Int):=cO 60 (by rw [Int.natAbs_natCast];omega) (by decide)
    have hsn:cQ (n:Int):=cO 60 (by rw [Int.natAbs_natCast];omega) (by decide)
    simp only [go_sem,byq]
    refine aj (fun h4=>?_) (fun h4=>?_)
    ·have h4':j<10:=by simp at h4;omega
     have ej:IntKind.i64.wrap ((j:Int)+1)=((j+1:Nat):Int):=by rw [wrap_i64]<;>omega
     have en:((n*j:Nat):Int)+(n:Int)=((n*(j+1):Nat):Int):=by rw [Nat.mul_add];omega
     simp only [go_sem,byq,fq]
     refine ⟨((n*j:Nat):Int),(n:Int),⟨rfl,rfl,hsj,hsn⟩,?_⟩
     simp only [go_sem,byq,zAV,en,ej]
     refine ⟨j+1,by omega,by omega,?_⟩
     (simp only [bkq,enterW,aS,ltF,ne_eq,Nat.reduceEqDiff,reduceCtorEq];try simp (disch:=first|assumption|omega|(simp;done)|(simp;omega)|(simp only [bt,and_true];first|done|omega|(simp;done))) [↓zmk,beq,ybc,ybd,ybe,ae,wk,wk2,wk1,wkM,wkL,al,ybf,byq,biq,af,hcl];try (repeat' (first|assumption|omega|exact True.intro|refine And.intro ?_ ?_|refine ag ?_|refine aa ?_|refine ac ?_ ?_|refine ah ?_ ?_|refine ai ?_|exact AHeap.Le.refl _|refine AHeap.Le.push ?_ _|refine AHeap.Le.del ?_ ?_|(simp only [bt,and_true,true_and];first|done|omega|(simp;done)))))
    ·have h4':j=10:=by simp at h4;omega
     subst h4'
     have en:((n*10:Nat):Int)+((dg c:Nat):Int)=((n*10+dg c:Nat):Int):=by omega
     have hsd:cQ ((dg c:Nat):Int):=cO 10 (by rw [Int.natAbs_natCast];omega) (by decide)
     have hsf:cQ ((n*10+dg c:Nat):Int):=cO 60 (by rw [Int.natAbs_natCast];omega) (by decide)
     obtain ⟨z,hz2⟩:∃ z:Int,z=((n*10+dg c:Nat):Int):=⟨_,rfl⟩
     rw [← hz2] at en hsf
     obtain ⟨y,hy⟩:∃ y:Int,y=((dg c:Nat):Int):=⟨_,rfl⟩
     simp only [go_sem,byq,fq,fR,db,hg]
     refine ⟨by omega,c,rfl,?_⟩
     simp only [go_sem,byq,db,fq]
     refine ⟨by omega,((n*10:Nat):Int),((dg c:Nat):Int),⟨rfl,rfl,hsj,hsd⟩,?_⟩
     refine gF (a:=n*10+dg c) (b:=2^128) (fun hf=>?_) (fun hf=>?_)
     ·rw [if_pos hf] at hl2
      have hft:decide (0≤z∧z<2^128)=true:=decide_eq_true (by omega)
      simp only [go_sem,byq,zAV,en,hJ]
      refine ⟨z,⟨rfl,hsf⟩,?_⟩
      simp only [go_sem,byq,zau,hft,e5]
      refine ⟨(k+1,n*10+dg c),⟨by omega,hf,hl2⟩,by omega,?_⟩
      (simp only [bkq,enterW,aS,ltF,ne_eq,Nat.reduceEqDiff,reduceCtorEq,hz2];try simp (disch:=first|assumption|omega|(simp;done)|(simp;omega)|(simp only [bt,and_true];first|done|omega|(simp;done))) [↓zmk,beq,ybc,ybd,ybe,ae,wk,wk2,wk1,wkM,wkL,al,ybf,byq,biq,af,hcl,hz2];try (repeat' (first|assumption|omega|exact True.intro|refine And.intro ?_ ?_|refine ag ?_|refine aa ?_|refine ac ?_ ?_|refine ah ?_ ?_|refine ai ?_|exact AHeap.Le.refl _|refine AHeap.Le.push ?_ _|refine AHeap.Le.del ?_ ?_|(simp only [bt,and_true,true_and,hz2];first|done|omega|(simp;done)))))
     ·rw [if_neg (Nat.not_lt.2 hf)] at hl2
      have hft:decide (0≤z∧z<2^128)=false:=decide_eq_false (by omega)
      simp only [go_sem,byq,zAV,en,hJ]
      refine ⟨z,⟨rfl,hsf⟩,?_⟩
      simp only [go_sem,byq,zat,hft,db,eZ,hl2,if_neg hbn,kZ]
      refine ⟨by omega,?_⟩
      simp (disch:=first|assumption|omega|(simp;done)|(simp;omega)|(simp only [bt,and_true];first|done|omega|(simp;done))) [↓zmk,beq,ybc,ybd,ybe,ae,wk,wk2,wk1,wkM,wkL,al,ybf,hcl]
  ·have h2':k=b.length:=by simp at h2;omega
   subst h2'
   rw [List.drop_length] at hl2
   simp only [cW] at hl2
   simp only [go_sem,byq]
   by_cases hbn:b=[]
   ·subst hbn
    have hn0:n=0:=by simp only [cW] at hl2;exact (Option.some.inj hl2).symm
    subst hn0
    have hb0:(([]:List UInt8)==[])=true:=rfl
    simp only [go_sem,byq,if_pos,kZ,eZ,hb0]
    simp (disch:=first|assumption|omega|(simp;done)|(simp;omega)|(simp only [bt,and_true];first|done|omega|(simp;done))) [↓zmk,beq,ybc,ybd,ybe,ae,wk,wk2,wk1,wkM,wkL,al,ybf,hcl,aV,cN]
   ·have hb0:(b==[])=false:=by simp [hbn]
    simp only [go_sem,byq,if_neg hbn,kZ,hl2,zAV,hb0]
    simp (disch:=first|assumption|omega|(simp;done)|(simp;omega)|(simp only [bt,and_true];first|done|omega|(simp;done))) [↓zmk,beq,ybc,ybd,ybe,ae,wk,wk2,wk1,wkM,wkL,al,ybf,hcl]
end Go.AL
open Go Go.AL Go.Proofs
namespace Go.AL
set_option linter.all false
set_option maxRecDepth 10000
theorem Df:ti Tryz.prog 143=some ⟨.struct [(0,3,false),(1,9,false),(2,3,false)],3,32,.agg [.int .i64 0,.str [],.int .i64 0]⟩:=by kernel_rfl
theorem Db:ti Tryz.prog 155=some ⟨.struct [(0,3,false),(1,9,false),(2,3,false)],3,32,.agg [.int .i64 0,.str [],.int .i64 0]⟩:=by kernel_rfl
theorem BC:ti Tryz.prog 79=some ⟨.slice 143,1,24,.slice .nil 1 []⟩:=by kernel_rfl
theorem z4:ti Tryz.prog 87=some ⟨.slice 155,1,24,.slice .nil 1 []⟩:=by kernel_rfl
theorem yw:ti Tryz.prog 34=some ⟨.int .i64,1,8,.int .i64 0⟩:=by kernel_rfl
attribute [go_sem] Df Db BC z4 yw
theorem wQ {t:Bool} {A B:Prop} (e:t=false) (h:B):ik t A B:=bf (fun h=>by simp [e] at h) (fun _=>h)
theorem sI {P:Program} {Ω:Tbl} {K:Conts} {t:Bool} {a b:Code} {fr:Fr} {H:AHeap} (e:t=false) (h:aw P Ω b K fr H):kD P Ω (.bool t) a b K fr H:=aj (fun h=>by simp [e] at h) (fun _=>h)
/-- a row of texts -/
def sAV (l:List (List UInt8)):List AV:=l.map .str
theorem ak {l:List (List UInt8)}:(sAV l).length=l.length:=by simp [sAV]
theorem j7 {l:List (List UInt8)} {i:Nat} (h:i<l.length):(sAV l).getD i .junk=.str (l.getD i []):=by simp [sAV,List.getD_eq_getElem?_getD,h]
theorem fl {n sz:Nat} {l:List AV} (h:∀ x∈l,AV.lt n x):AV.lt n (.slice .any sz l):=by
 rw [AV.lt]
 exact ⟨fun id e=>(by cases e),fun j hj=>h _ (List.getElem_mem hj)⟩
theorem bU {n:Nat} {l:List (List UInt8)}:AV.lt n (.slice .any 1 (sAV l)):=fl fun x hx=>by
 obtain ⟨s,_,rfl⟩:=List.mem_map.1 hx
 simp only [znd]
theorem zR:[AV.str [38,38],.str [124,124],.str [45,62],.str [61,61],.str [33,61],.str [60,61],.str [62,61],.str [58,58],.str [40],.str [41],.str [33],.str [60],.str [62],.str [43],.str [45]]=sAV syms:=rfl
theorem eH:syms.length=15:=rfl
/-- tokens in memory -/
def sy (t:Tok):AV:=.agg [.int .i64 (t.1:Int),.str t.2.1,.int .i64 (t.2.2:Int)]
def cb (l:List Tok):List AV:=l.map sy
theorem aE {l:List Tok}:(cb l).length=l.length:=by simp [cb]
theorem BD {l:List Tok} {x:List UInt8} {k:Nat}:cb l++[.agg [.int .i64 1,.str x,.int .i64 (k:Int)]]=cb (l++[(1,x,k)]):=by simp [cb,sy]
theorem zv {l:List Tok} {x:List UInt8} {k:Nat}:cb l++[.agg [.int .i64 2,.str x,.int .i64 (k:Int)]]=cb (l++[(2,x,k)]):=by simp [cb,sy]
theorem zH {l:List Tok} {x:List UInt8} {k:Nat}:cb l++[.agg [.int .i64 3,.str x,.int .i64 (k:Int)]]=cb (l++[(3,x,k)]):=by simp [cb,sy]
theorem mW {k1 k2:IntKind} {a c:Int} {b:List UInt8}:(∀ z,z∈[AV.agg [.int k1 a,.str b,.int k2 c]]→bb z.cells=true)=True:=eq_true fun z hz=>by
 rw [List.mem_singleton.1 hz]
 simp [zim,zgm,zgn,zgo,zgq]
theorem cr {H Hc:AHeap} {i:Nat} {o:AObj} (h:H.Le Hc) (hi:H.nx≤i):H.Le (Hc.set i o):=⟨h.nx,fun j x hj=>by
 have:=AHeap.get_lt hj
 rw [AHeap.get_set_ne _ _ (by omega)]
 exact h.get j x hj⟩
theorem c9:cb []=[]:=rfl
theorem wR {n:Nat} {l:List Tok}:AV.lt n (.slice .any 3 (cb l)):=fl fun x hx=>by
 obtain ⟨s,_,rfl⟩:=List.mem_map.1 hx
 simp only [sy,znn,znq,znr,znb,znd,and_true]
theorem Bj {n:Nat} {l:List Tok}:ltL n (cb l):=ltL_iff.2 fun j hj=>by
 simp only [cb,List.getElem_map,sy,znn,znq,znr,znb,znd,and_true]
theorem jJ {n id:Nat} {l:List Tok} (h:id<n):AV.lt n (.slice (.own id) 3 (cb l)):=by
 rw [bT]
 exact ⟨fun i e=>by cases e;exact h,Bj⟩
def jU (s:List UInt8):AV:=.tup [.slice .any 3 (cb (bx s).1),.int .i64 ((bx s).2.1:Int),.int .i64 ((bx s).2.2:Int)]
def hU:List AV→AHeap→(AV→Prop)→Prop
 |[.str s,.str p],_,K=>K (.bool (fx s p))
 |_,_,_=>False
theorem lR:EntOk Tryz.prog 52 (Ent.pure hU):=by
 refine EntOk.pure fun args H K h=>?_
 unfold hU at h
 split at h
 rotate_left
 ·exact h.elim
 rename_i s p
 refine ⟨_,h,?_⟩
 clear h
 refine ACalls.fW aA (TblOk.cons kO TblOk.nil) Tryz.func52 [.tmp 4] (Nat.le_refl _) (T:=au []) (h:=fun hcl hlt=>?_)
 clear hlt
 simp only [go_sem,gl]
 simp (disch:=first|assumption|omega|(simp;done)|(simp;omega)|(simp only [bt,and_true];first|done|omega|(simp;done))) [↓zmk,beq,ybc,ybd,ybe,ae,wk,wk2,wk1,wkM,wkL,al,ybf,hcl]
def k7:List AV→AHeap→(AV→Prop)→Prop
 |[],_,K=>K (.slice .any 1 (sAV syms))
 |_,_,_=>False
theorem uN:EntOk Tryz.prog 92 (Ent.pure k7):=by
 refine EntOk.pure fun args H K h=>?_
 unfold k7 at h
 split at h
 rotate_left
 ·exact h.elim
 refine ⟨_,h,?_⟩
 clear h
 refine ACalls.fW aA TblOk.nil Tryz.func92 [.tmp 0] (Nat.le_refl _) (T:=au []) (h:=fun hcl hlt=>?_)
 clear hlt
 simp only [go_sem,zR]
 simp (disch:=first|assumption|omega|(simp;done)|(simp;omega)|(simp only [bt,and_true];first|done|omega|(simp;done))) [↓zmk,beq,ybc,ybd,ybe,ae,wk,wk2,wk1,wkM,wkL,al,ybf,hcl,bU]
theorem qo {x:List UInt8} {l:List (List UInt8)} {s:List UInt8}:pA (x::l) s=if fx s x then x else pA l s:=by rw [pA]
def mG:List AV→AHeap→(AV→Prop)→Prop
 |[.str s],_,K=>K (.str (gN s))
 |_,_,_=>False
theorem vI:EntOk Tryz.prog 53 (Ent.pure mG):=by
 refine EntOk.pure fun args H K h=>?_
 unfold mG at h
 split at h
 rotate_left
 ·exact h.elim
 rename_i s
 refine ⟨_,h,?_⟩
 clear h
 refine ACalls.fW aA (TblOk.cons uN (TblOk.cons lR TblOk.nil)) Tryz.func53 [.tmp 2] (Nat.le_refl _) (T:=au []) (h:=fun hcl hlt=>?_)
 clear hlt
 simp only [go_sem,k7,ak]
 refine av (A:=Nat) (fun k=>[(0,.str s),(5,.slice .any 1 (sAV syms)),(6,.int .i64 15),(7,.int .i64 (k:Int))]) (fun k=>H) (fun k=>k≤15∧gN s=pA (syms.drop k) s) (fun k=>15 - k) 0 ⟨by omega,rfl⟩ ?_ fun k hk=>?_
 ·(simp only [bkq,enterW,aS,ltF,ne_eq,Nat.reduceEqDiff,reduceCtorEq,bU,eH];try simp (disch:=first|assumption|omega|(simp;done)|(simp;omega)|(simp only [bt,and_true];first|done|omega|(simp;done))) [↓zmk,beq,ybc,ybd,ybe,ae,wk,wk2,wk1,wkM,wkL,al,ybf,byq,biq,af,hcl,bU,eH];try (repeat' (first|assumption|omega|exact True.intro|refine And.intro ?_ ?_|refine ag ?_|refine aa ?_|refine ac ?_ ?_|refine ah ?_ ?_|refine ai ?_|exact AHeap.Le.refl _|refine AHeap.Le.push ?_ _|refine AHeap.Le.del ?_ ?_|(simp only [bt,and_true,true_and,bU,eH];first|done|omega|(simp;done)))))
 obtain ⟨hk,hs⟩:=hk
 simp only [go_sem]
 refine aj (fun h1=>?_) (fun h1=>?_)
 ·have hk2:k<15:=by simp at h1;omega
  have hk1:k<syms.length:=by rw [eH];exact hk2
  have hg:(sAV syms).getD k .junk=.str (syms.getD k []):=j7 hk1
  have e5:IntKind.i64.wrap ((k:Int)+1)=((k+1:Nat):Int):=by rw [wrap_i64]<;>omega
  have hgk:syms.getD k []=syms[k]:=by simp [List.getD_eq_getElem?_getD,hk1]
  rw [List.drop_eq_getElem_cons hk1,qo] at hs
  rw [hgk] at hg
  generalize syms[k]=x at *
  simp only [go_sem,Int.toNat_natCast,ak,eH,hg,hU,e5]
  refine ⟨by omega,aj (fun h2=>?_) (fun h2=>?_)⟩
  ·rw [if_pos h2] at hs
   simp only [go_sem,hs]
   simp (disch:=first|assumption|omega|(simp;done)|(simp;omega)|(simp only [bt,and_true];first|done|omega|(simp;done))) [↓zmk,beq,ybc,ybd,ybe,ae,wk,wk2,wk1,wkM,wkL,al,ybf,hcl]
  ·rw [if_neg (by simp [h2])] at hs
   simp only [go_sem,e5]
   refine ⟨k+1,⟨by omega,hs⟩,by omega,?_⟩
   (simp only [bkq,enterW,aS,ltF,ne_eq,Nat.reduceEqDiff,reduceCtorEq,bU];try simp (disch:=first|assumption|omega|(simp;done)|(simp;omega)|(simp only [bt,and_true];first|done|omega|(simp;done))) [↓zmk,beq,ybc,ybd,ybe,ae,wk,wk2,wk1,wkM,wkL,al,ybf,byq,biq,af,hcl,bU];try (repeat' (first|assumption|omega|exact True.intro|refine And.intro ?_ ?_|refine ag ?_|refine aa ?_|refine ac ?_ ?_|refine ah ?_ ?_|refine ai ?_|exact AHeap.Le.refl _|refine AHeap.Le.push ?_ _|refine AHeap.Le.del ?_ ?_|(simp only [bt,and_true,true_and,bU];first|done|omega|(simp;done)))))
 ·have hk1:k=15:=by simp at h1;omega
  subst hk1
  have h0:gN s=[]:=by rw [hs];rfl
  simp only [go_sem,h0]
  simp (disch:=first|assumption|omega|(simp;done)|(simp;omega)|(simp only [bt,and_true];first|done|omega|(simp;done))) [↓zmk,beq,ybc,ybd,ybe,ae,wk,wk2,wk1,wkM,wkL,al,ybf,hcl]
def ki:List AV→AHeap→(AV→Prop)→Prop
 |[x],_,K=>∃ c,x=bk c∧K (.bool (cp c))
 |_,_,_=>False
theorem pH:EntOk Tryz.prog 55 (Ent.pure ki):=by
 refine EntOk.pure fun args H K h=>?_
 unfold ki at h
 split at h
 rotate_left
 ·exact h.elim
 obtain ⟨c,rfl,hK⟩:=h
 refine ⟨_,hK,?_⟩
 clear hK
 refine ACalls.fW aA TblOk.nil Tryz.func55 [.tmp 2] (Nat.le_refl _) (T:=au []) (h:=fun hcl hlt=>?_)
 clear hlt
 simp only [go_sem,bk]
 refine bf (fun h1=>?_) (fun h1=>?_)
 ·have e:cp c=decide ((c.toNat:Int)≤122):=by unfold cp;rw [Bool.eq_iff_iff];simp at h1 ⊢;omega
  simp only [go_sem,e]
  simp (disch:=first|assumption|omega|(simp;done)|(simp;omega)|(simp only [bt,and_true];first|done|omega|(simp;done))) [↓zmk,beq,ybc,ybd,ybe,ae,wk,wk2,wk1,wkM,wkL,al,ybf,hcl]
 ·have e:cp c=false:=by unfold cp;rw [Bool.eq_iff_iff];simp at h1 ⊢;omega
  simp only [go_sem,e]
  simp (disch:=first|assumption|omega|(simp;done)|(simp;omega)|(simp only [bt,and_true];first|done|omega|(simp;done))) [↓zmk,beq,ybc,ybd,ybe,ae,wk,wk2,wk1,wkM,wkL,al,ybf,hcl]
def sE:List AV→AHeap→(AV→Prop)→Prop
 |[x],_,K=>∃ c,x=bk c∧K (.bool (cn c))
 |_,_,_=>False
theorem Be:EntOk Tryz.prog 93 (Ent.pure sE):=by
 refine EntOk.pure fun args H K h=>?_
 unfold sE at h
 split at h
 rotate_left
 ·exact h.elim
 obtain ⟨c,rfl,hK⟩:=h
 refine ⟨_,hK,?_⟩
 clear hK
 refine ACalls.fW aA (TblOk.cons pH TblOk.nil) Tryz.func93 [.tmp 2] (Nat.le_refl _) (T:=au []) (h:=fun hcl hlt=>?_)
 clear hlt
 simp only [go_sem,ki]
 refine ⟨c,rfl,?_⟩
 simp only [go_sem,bk]
 have e95:(((c.toNat:Nat):Int)==95)=(c==95):=by rw [Bool.eq_iff_iff];simp [← UInt8.toNat_inj];omega
 rw [e95]
 refine bf (fun h1=>?_) (fun h1=>?_)
 ·have e:cn c=true:=by unfold cn;rw [h1];rfl
  simp only [go_sem,e]
  simp (disch:=first|assumption|omega|(simp;done)|(simp;omega)|(simp only [bt,and_true];first|done|omega|(simp;done))) [↓zmk,beq,ybc,ybd,ybe,ae,wk,wk2,wk1,wkM,wkL,al,ybf,hcl]
 ·refine bf (fun h2=>?_) (fun h2=>?_)
  ·have h2':48≤c.toNat:=by simp at h2;omega
   refine bf (fun h3=>?_) (fun h3=>?_)
   ·have h3':c.toNat≤57:=by simp at h3;omega
    have e:cn c=true:=by unfold cn;rw [decide_eq_true h2',decide_eq_true h3'];simp
    simp only [go_sem,e]
    simp (disch:=first|assumption|omega|(simp;done)|(simp;omega)|(simp only [bt,and_true];first|done|omega|(simp;done))) [↓zmk,beq,ybc,ybd,ybe,ae,wk,wk2,wk1,wkM,wkL,al,ybf,hcl]
   ·have h3':¬ c.toNat≤57:=by simp at h3;omega
    have e:cn c=(c==95):=by unfold cn;rw [decide_eq_false h3',h1];simp
    simp only [go_sem,e]
    simp (disch:=first|assumption|omega|(simp;done)|(simp;omega)|(simp only [bt,and_true];first|done|omega|(simp;done))) [↓zmk,beq,ybc,ybd,ybe,ae,wk,wk2,wk1,wkM,wkL,al,ybf,hcl]
  ·have h2':¬ 48≤c.toNat:=by simp at h2;omega
   have e:cn c=(c==95):=by unfold cn;rw [decide_eq_false h2',h1];simp
   simp only [go_sem,e]
   simp (disch:=first|assumption|omega|(simp;done)|(simp;omega)|(simp only [bt,and_true];first|done|omega|(simp;done))) [↓zmk,beq,ybc,ybd,ybe,ae,wk,wk2,wk1,wkM,wkL,al,ybf,hcl]
theorem jo {s:List UInt8} {k:Nat} (h:k<s.length):ci (s.drop k)=if cn (s.getD k 0) then s.getD k 0::ci (s.drop (k+1)) else []:=by
 have e:s.getD k 0=s[k]:=by simp [List.getD_eq_getElem?_getD,h]
 rw [e,List.drop_eq_getElem_cons h]
 unfold ci
 by_cases hp:cn s[k]=true
 ·rw [if_pos hp,List.takeWhile_cons_of_pos hp]
 ·rw [if_neg hp,List.takeWhile_cons_of_neg hp]
theorem qy {s:List UInt8} {k:Nat} (h:k<s.length) (hp:cn (s.getD k 0)=true) (hw:ci s=s.take k++ci (s.drop k)):ci s=s.take (k+1)++ci (s.drop (k+1)):=by
 have e:s.getD k 0=s[k]:=by simp [List.getD_eq_getElem?_getD,h]
 rw [jo h,if_pos hp,e] at hw
 rw [hw,List.take_succ_eq_append_getElem h,List.append_assoc];rfl
theorem nB {s:List UInt8} {k:Nat} (h:k<s.length) (hp:cn (s.getD k 0)=false) (hw:ci s=s.take k++ci (s.drop k)):ci s=s.take k:=by
 rw [jo h,if_neg (by rw [hp];decide),yaj] at hw
 exact hw
theorem pb {s:List UInt8} {k:Nat} (h:¬ k<s.length) (hw:ci s=s.take k++ci (s.drop k)):ci s=s.take k:=by
 rw [ybf (by omega)] at hw
 simpa [ci] using hw
def sF:List AV→AHeap→(AV→Prop)→Prop
 |[.str s],_,K=>s.length≤140737488355328∧K (.str (ci s))
 |_,_,_=>False
theorem BF:EntOk Tryz.prog 54 (Ent.pure sF):=by
 refine EntOk.pure fun args H K h=>?_
 unfold sF at h
 split at h
 rotate_left
 ·exact h.elim
 rename_i s
 obtain ⟨hsl,hK⟩:=h
 refine ⟨_,hK,?_⟩
 clear hK
 refine ACalls.fW aA (TblOk.cons Be TblOk.nil) Tryz.func54 [.tmp 2] (Nat.le_refl _) (T:=au []) (h:=fun hcl hlt=>?_)
 clear hlt
 simp only [go_sem]
 refine av (A:=Nat) (fun k=>[(0,.str s),(3,.int .i64 (k:Int))]) (fun k=>H) (fun k=>k≤s.length∧ci s=s.take k++ci (s.drop k)) (fun k=>s.length - k) 0 ⟨by omega,by simp⟩ ?_ fun k hk=>?_
 ·(simp only [bkq,enterW,aS,ltF,ne_eq,Nat.reduceEqDiff,reduceCtorEq];try simp (disch:=first|assumption|omega|(simp;done)|(simp;omega)|(simp only [bt,and_true];first|done|omega|(simp;done))) [↓zmk,beq,ybc,ybd,ybe,ae,wk,wk2,wk1,wkM,wkL,al,ybf,byq,biq,af,hcl];try (repeat' (first|assumption|omega|exact True.intro|refine And.intro ?_ ?_|refine ag ?_|refine aa ?_|refine ac ?_ ?_|refine ah ?_ ?_|refine ai ?_|exact AHeap.Le.refl _|refine AHeap.Le.push ?_ _|refine AHeap.Le.del ?_ ?_|(simp only [bt,and_true,true_and];first|done|omega|(simp;done)))))
 obtain ⟨hk,hs⟩:=hk
 simp only [go_sem]
 refine bf (fun h1=>?_) (fun h1=>?_)
 ·have hk1:k<s.length:=by simp at h1;omega
  have e5:IntKind.i64.wrap ((k:Int)+1)=((k+1:Nat):Int):=by rw [wrap_i64]<;>omega
  simp only [go_sem,sE,Int.toNat_natCast]
  refine ⟨by omega,s.getD k 0,rfl,?_⟩
  refine aj (fun h2=>?_) (fun h2=>?_)
  ·simp only [go_sem,e5]
   refine ⟨k+1,⟨by omega,qy hk1 h2 hs⟩,by omega,?_⟩
   (simp only [bkq,enterW,aS,ltF,ne_eq,Nat.reduceEqDiff,reduceCtorEq];try simp (disch:=first|assumption|omega|(simp;done)|(simp;omega)|(simp only [bt,and_true];first|done|omega|(simp;done))) [↓zmk,beq,ybc,ybd,ybe,ae,wk,wk2,wk1,wkM,wkL,al,ybf,byq,biq,af,hcl];try (repeat' (first|assumption|omega|exact True.intro|refine And.intro ?_ ?_|refine ag ?_|refine aa ?_|refine ac ?_ ?_|refine ah ?_ ?_|refine ai ?_|exact AHeap.Le.refl _|refine AHeap.Le.push ?_ _|refine AHeap.Le.del ?_ ?_|(simp only [bt,and_true,true_and];first|done|omega|(simp;done)))))
  ·have hw:=nB hk1 h2 hs
   simp only [go_sem,Int.toNat_natCast,hw]
   refine ⟨by omega,?_⟩
   simp (disch:=first|assumption|omega|(simp;done)|(simp;omega)|(simp only [bt,and_true];first|done|omega|(simp;done))) [↓zmk,beq,ybc,ybd,ybe,ae,wk,wk2,wk1,wkM,wkL,al,ybf,hcl]
 ·have hk1:¬ k<s.length:=by simp at h1;omega
  have hw:=pb hk1 hs
  try simp only [go_sem,Int.toNat_natCast,hw,zau]
  refine ⟨by omega,?_⟩
  simp (disch:=first|assumption|omega|(simp;done)|(simp;omega)|(simp only [bt,and_true];first|done|omega|(simp;done))) [↓zmk,beq,ybc,ybd,ybe,ae,wk,wk2,wk1,wkM,wkL,al,ybf,hcl]
def nX:List AV→AHeap→(AV→Prop)→Prop
 |[.str s],_,K=>s.length≤140737488355328∧K (jU s)
 |_,_,_=>False
theorem lH {s:List UInt8} {k:Nat} {x:List UInt8} {kd:Nat} (h:k<s.length) (h3:iM (s.drop k)=some (kd,x)):x≠[]∧k+x.length≤s.length:=by
 obtain ⟨g1,g2,_⟩:=iL h3
 rw [List.length_drop] at g2
 exact ⟨g1,by omega⟩
theorem qD {s:List UInt8} {l:List Tok} (h:¬ 400<s.length) (e:rest s 0=(l,none)):bx s=(l,0,0):=by unfold bx;rw [if_neg h,e]
theorem iF {s:List UInt8} {l:List Tok} {k:Nat} (h:¬ 400<s.length) (e:rest s 0=(l,some k)):bx s=([],k,10):=by unfold bx;rw [if_neg h,e]
theorem re {s:List UInt8} (h:ci s=[]) (h2:gN s=[]):iM s=none:=by unfold iM;rw [h,h2]
theorem tL {s y:List UInt8} (h:ci s=[]) (h2:gN s=y) (hy:y≠[]):iM s=some (3,y):=by
 unfold iM;rw [h,h2];cases y with
 |nil=>exact absurd rfl hy
 |cons a b=>rfl
theorem tc {s w:List UInt8} {c:UInt8} (h:ci s=c::w) (h2:cp c=true):iM s=some (2,c::w):=by unfold iM;rw [h];dsimp only;rw [if_pos h2]
theorem ur {s w:List UInt8} {c:UInt8} {n:Nat} (h:ci s=c::w) (h2:cp c=false) (h3:lit (c::w)=some n):iM s=some (1,c::w):=by
 unfold iM;rw [h];dsimp only;rw [if_neg (by rw [h2];decide),h3];rfl
theorem n8 {s w:List UInt8} {c:UInt8} (h:ci s=c::w) (h2:cp c=false) (h3:lit (c::w)=none):iM s=none:=by
 unfold iM;rw [h];dsimp only;rw [if_neg (by rw [h2];decide),h3];rfl
theorem ka {s:List UInt8} {pre:List Tok} {k kd id:Nat} {x:List UInt8} {H Hd:AHeap} {fr:Fr} (hk:k<s.length) (hc:s[k]≠32) (ht:iM (s.drop k)=some (kd,x)) (hpl:pre.length≤k)
 (hr:rest s 0=(pre++(rest s k).1,(rest s k).2)) (hle:H.Le Hd) (hcd:Hd.Closed) (hid:H.nx≤id) (hg:Hd.get id=some (.buf 3 (pre.length+1)))
 (f0:Fr.get fr 0=.str s) (f5:Fr.get fr 5=.slice (.own id) 3 (cb (pre++[(kd,x,k)]))) (f6:Fr.get fr 6=.int .i64 ((k+x.length:Nat):Int)) :
 ∃ a':Nat × List Tok × Nat × AHeap,((a'.1≤s.length∧a'.2.1.length≤a'.1∧rest s 0=(a'.2.1++(rest s a'.1).1,(rest s a'.1).2))∧H.Le a'.2.2.2∧a'.2.2.2.Closed∧H.nx≤a'.2.2.1∧a'.2.2.2.get a'.2.2.1=some (.buf 3 a'.2.1.length)) ∧
  s.length - a'.1<s.length - k∧enterW H.nx fr Hd [(0,.str s),(5,.slice (.own a'.2.2.1) 3 (cb a'.2.1)),(6,.int .i64 (a'.1:Int))] a'.2.2.2:=by
 obtain ⟨hy1,hy2⟩:=lH hk ht
 have hyl:0<x.length:=List.length_pos_iff.2 hy1
 have hid2:id<Hd.nx:=AHeap.get_lt hg
 refine ⟨(k+x.length,pre++[(kd,x,k)],id,Hd),⟨⟨hy2,?_,?_⟩,hle,hcd,hid,?_⟩,?_,hle.nx,AHeap.Le.refl _,hcd,?_,?_⟩
 ·simp;omega
 ·rw [hr,Ag hk hc ht,List.append_assoc];rfl
 ·rw [hg];simp
 ·dsimp only;omega
 ·simp only [ltF,znd,znb,true_and,and_true]
  exact jJ hid2
 ·simp [aS,wk2,wk1,wkM,f0,f5,f6]
theorem qN {s:List UInt8} {k:Nat} (h:k<s.length):fx (s.drop k) [32]=(s[k]==32):=by
 unfold fx
 rw [List.drop_eq_getElem_cons h]
 generalize s.drop (k+1)=r
 rw [Bool.eq_iff_iff,beq_iff_eq,beq_iff_eq]
 show [s[k]]=[32]↔_
 simp
theorem AS:EntOk Tryz.prog 21 (Ent.pure nX):=by
 refine EntOk.pure fun args H K h=>?_
 unfold nX at h
 split at h
 rotate_left
 ·exact h.elim
 rename_i s
 obtain ⟨hsl,hK⟩:=h
 refine ⟨_,hK,?_⟩
 clear hK
 refine ACalls.fW aA (TblOk.cons lR (TblOk.cons vI (TblOk.cons BF (TblOk.cons pH (TblOk.cons nl TblOk.nil))))) Tryz.func21 [.tmp 2,.tmp 3,.tmp 4] (Nat.le_refl _) (T:=au []) (h:=fun hcl hlt=>?_)
 clear hlt
 simp only [go_sem,jU]
 refine aj (fun h1=>?_) (fun h1=>?_)
 ·have h1':400<s.length:=by simp at h1;omega
  have e:bx s=([],0,3):=by unfold bx;rw [if_pos h1']
  simp only [go_sem,e,c9]
  simp (disch:=first|assumption|omega|(simp;done)|(simp;omega)|(simp only [bt,and_true];first|done|omega|(simp;done))) [↓zmk,beq,ybc,ybd,ybe,ae,wk,wk2,wk1,wkM,wkL,al,ybf,hcl,fl]
 have h1':¬ 400<s.length:=by simp at h1;omega
 simp only [go_sem]
 refine av (A:=Nat × List Tok × Nat × AHeap) (fun a=>[(0,.str s),(5,.slice (.own a.2.2.1) 3 (cb a.2.1)),(6,.int .i64 (a.1:Int))]) (fun a=>a.2.2.2)
  (fun a=>(a.1≤s.length∧a.2.1.length≤a.1∧rest s 0=(a.2.1++(rest s a.1).1,(rest s a.1).2))∧H.Le a.2.2.2∧a.2.2.2.Closed∧H.nx≤a.2.2.1∧a.2.2.2.get a.2.2.1=some (.buf 3 a.2.1.length))
  (fun a=>s.length - a.1) (0,[],H.nx+1,(H.push (.buf 3 0)).push (.buf 3 0)) ⟨⟨by omega,by simp,by simp⟩,?_,?_,by simp,?_⟩ ?_ fun a ha=>?_
 ·simp (disch:=first|assumption|omega|(simp;done)|(simp;omega)|(simp only [bt,and_true];first|done|omega|(simp;done))) [↓zmk,beq,ybc,ybd,ybe,ae,wk,wk2,wk1,wkM,wkL,al,ybf,hcl]
 ·(repeat' (first|assumption|omega|exact True.intro|refine And.intro ?_ ?_|refine ag ?_|refine aa ?_|refine ac ?_ ?_|refine ah ?_ ?_|refine ai ?_|exact AHeap.Le.refl _|refine AHeap.Le.push ?_ _|refine AHeap.Le.del ?_ ?_|(simp only [bt,and_true,true_and];first|done|omega|(simp;done))))
 ·exact AHeap.get_push_new _ _
 ·(simp only [bkq,enterW,aS,ltF,ne_eq,Nat.reduceEqDiff,reduceCtorEq,c9];try simp (disch:=first|assumption|omega|(simp;done)|(simp;omega)|(simp only [bt,and_true];first|done|omega|(simp;done))) [↓zmk,beq,ybc,ybd,ybe,ae,wk,wk2,wk1,wkM,wkL,al,ybf,byq,biq,af,hcl,c9];try (repeat' (first|assumption|omega|exact True.intro|refine And.intro ?_ ?_|refine ag ?_|refine aa ?_|refine ac ?_ ?_|refine ah ?_ ?_|refine ai ?_|exact AHeap.Le.refl _|refine AHeap.Le.push ?_ _|refine AHeap.Le.del ?_ ?_|(simp only [bt,and_true,true_and,c9];first|done|omega|(simp;done)))))
 obtain ⟨k,pre,id,Hc⟩:=a
 obtain ⟨⟨hk,hpl,hr⟩,hle,hcc,hid,hst⟩:=ha
 dsimp only at hk hpl hr hle hcc hid hst ⊢
 have hnx:H.nx≤Hc.nx:=hle.nx
 have hid2:id<Hc.nx:=AHeap.get_lt hst
 simp only [go_sem]
 refine aj (fun h2=>?_) (fun h2=>?_)
 ·have hk1:k<s.length:=by simp at h2;omega
  have e5:IntKind.i64.wrap ((k:Int)+1)=((k+1:Nat):Int):=by rw [wrap_i64]<;>omega
  simp only [go_sem,hU,Int.toNat_natCast,List.take_length]
  refine ⟨by omega,aj (fun h3=>?_) (fun h3=>?_)⟩
  ·have hc:s[k]=32:=by rw [qN hk1] at h3;simpa using h3
   rw [ol hk1 hc] at hr
   simp only [go_sem,e5]
   refine ⟨(k+1,pre,id,Hc),⟨⟨by dsimp only;omega,by dsimp only;omega,hr⟩,hle,hcc,hid,hst⟩,by dsimp only;omega,?_⟩
   (simp only [bkq,enterW,aS,ltF,ne_eq,Nat.reduceEqDiff,reduceCtorEq,hcc,hnx,hid2];try simp (disch:=first|assumption|omega|(simp;done)|(simp;omega)|(simp only [bt,and_true];first|done|omega|(simp;done))) [↓zmk,beq,ybc,ybd,ybe,ae,wk,wk2,wk1,wkM,wkL,al,ybf,byq,biq,af,hcl,hcc,hnx,hid2];try (repeat' (first|assumption|omega|exact True.intro|refine And.intro ?_ ?_|refine ag ?_|refine aa ?_|refine ac ?_ ?_|refine ah ?_ ?_|refine ai ?_|exact AHeap.Le.refl _|refine AHeap.Le.push ?_ _|refine AHeap.Le.del ?_ ?_|(simp only [bt,and_true,true_and,hcc,hnx,hid2];first|done|omega|(simp;done)))))
   exact jJ hid2
  have n1:(id=Hc.nx)=False:=eq_false (by omega)
  have n2:(id=Hc.nx+1)=False:=eq_false (by omega)
  have n3:(id=Hc.nx+1+1)=False:=eq_false (by omega)
  have hc:s[k]≠32:=by rw [qN hk1] at h3;simpa using h3
  have hsd:(s.drop k).length≤400:=by rw [List.length_drop];omega
  simp only [go_sem,mG,sF]
  refine ⟨by omega,?_⟩
  cases hw:ci (s.drop k) with
  |nil =>
   have en:(([]:List UInt8) != [])=false:=rfl
   rcases Classical.em (gN (s.drop k)=[]) with hy|hy
   ·have htk:=re hw hy
    rw [jH hk1 hc htk,yaj] at hr
    have hsc:=iF h1' hr
    have eb:(([]:List UInt8)==[])=true:=rfl
    simp only [go_sem,hsc,hy,en,eb,zau,zat,c9]
    simp (disch:=first|assumption|omega|(simp;done)|(simp;omega)|(simp only [bt,and_true];first|done|omega|(simp;done))) [↓zmk,beq,ybc,ybd,ybe,ae,wk,wk2,wk1,wkM,wkL,al,ybf,hcc,hle,hcl]
    exact (hle.push _).push _
   ·have htk:=tL hw rfl hy
    have eb:(gN (s.drop k)==[])=false:=by simpa using hy
    have eb0:(([]:List UInt8)==[])=true:=rfl
    obtain ⟨hy1,hy2⟩:=lH hk1 htk
    generalize gN (s.drop k)=y at *
    have e6:IntKind.i64.wrap ((k:Int)+(y.length:Int))=((k+y.length:Nat):Int):=by rw [wrap_i64]<;>omega
    simp only [go_sem,en,eb,eb0,zau,zat,n1,n2,hst,aE,zH,e6,mW]
    refine ⟨by omega,ka hk1 hc htk hpl hr (((cr hle hid).push _).push _) ?_ hid ?_ rfl rfl rfl⟩
    ·exact ag (ac (aa hcc) (by simp [znq,znr,znb,znd]))
    ·rw [AHeap.get_push_lt _ _ (by simp [AHeap.push,AHeap.set];omega),AHeap.get_push_lt _ _ (by simp [AHeap.set];omega),AHeap.get_set_same _ _ hid2]
  |cons c w =>
   have en:((c::w) != [])=true:=rfl
   have eb:((c::w)==[])=false:=rfl
   simp only [go_sem,en,eb,zat,ki]
   refine ⟨by omega,c,rfl,?_⟩
   cases hlc:cp c with
   |true =>
    have htk:=tc hw hlc
    obtain ⟨_,hy2⟩:=lH hk1 htk
    have e6:IntKind.i64.wrap ((k:Int)+((w.length+1:Nat):Int))=((k+(c::w).length:Nat):Int):=by
     rw [yaz] at hy2 ⊢
     rw [wrap_i64]<;>omega
    simp only [go_sem,en,eb,zau,zat,n1,n2,hst,aE,zv,e6,mW]
    refine ⟨by omega,ka hk1 hc htk hpl hr (((cr hle hid).push _).push _) ?_ hid ?_ rfl rfl rfl⟩
    ·exact ag (ac (aa hcc) (by simp [znq,znr,znb,znd]))
    ·rw [AHeap.get_push_lt _ _ (by simp [AHeap.push,AHeap.set];omega),AHeap.get_push_lt _ _ (by simp [AHeap.set];omega),AHeap.get_set_same _ _ hid2]
   |false =>
    have hcw:(c::w).length≤400:=by rw [← hw];exact Nat.le_trans (List.takeWhile_sublist _).length_le hsd
    simp only [go_sem,en,eb,zau,zat,i9]
    cases hli:lit (c::w) with
    |none =>
     have htk:=n8 hw hlc hli
     rw [jH hk1 hc htk,yaj] at hr
     have hsc:=iF h1' hr
     simp only [go_sem,hsc,nG,nAV,zau,zat,c9]
     refine ⟨by simp only [yaz] at hcw;omega,?_⟩
     simp (disch:=first|assumption|omega|(simp;done)|(simp;omega)|(simp only [bt,and_true];first|done|omega|(simp;done))) [↓zmk,beq,ybc,ybd,ybe,ae,wk,wk2,wk1,wkM,wkL,al,ybf,hcc,hle,hcl]
     exact ((hle.push _).push _).push _
    |some n =>
     have htk:=ur hw hlc hli
     obtain ⟨_,hy2⟩:=lH hk1 htk
     have e6:IntKind.i64.wrap ((k:Int)+((w.length+1:Nat):Int))=((k+(c::w).length:Nat):Int):=by
      rw [yaz] at hy2 ⊢
      rw [wrap_i64]<;>omega
     simp only [go_sem,nG,nAV,zau,zat,n1,n2,n3,eb,hst,aE,BD,e6,mW]
     refine ⟨by simp only [yaz] at hcw;omega,by omega,ka hk1 hc htk hpl hr ((((cr hle hid).push _).push _).push _) ?_ hid ?_ rfl rfl rfl⟩
     ·exact ag (ac (ac (aa hcc) (by simp [znq,znr,znb,znd])) (by simp [znq,znr,znb,znd]))
     ·rw [AHeap.get_push_lt _ _ (by simp [AHeap.push,AHeap.set];omega),AHeap.get_push_lt _ _ (by simp [AHeap.push,AHeap.set];omega),AHeap.get_push_lt _ _ (by simp [AHeap.set];omega),AHeap.get_set_same _ _ hid2]
 ·have hk1:s.length≤k:=by simp at h2;omega
  rw [uH hk1,yaj] at hr
  have hsc:=qD h1' hr
  simp only [go_sem,hsc]
  simp (disch:=first|assumption|omega|(simp;done)|(simp;omega)|(simp only [bt,and_true];first|done|omega|(simp;done))) [↓zmk,beq,ybc,ybd,ybe,ae,wk,wk2,wk1,wkM,wkL,al,ybf,hcc,hle,wR,hcl]
end Go.AL
open Go Go.AL Go.Proofs
namespace Go.AL
set_option linter.all false
set_option maxRecDepth 10000
def rO:List AV→AHeap→(AV→Prop)→Prop
 |[x],_,K=>∃ c,x=bk c∧K (.bool (cn c))
 |_,_,_=>False
theorem Af:EntOk Tryz.prog 104 (Ent.pure rO):=by
 refine EntOk.pure fun args H K h=>?_
 unfold rO at h
 split at h
 rotate_left
 ·exact h.elim
 obtain ⟨c,rfl,hK⟩:=h
 refine ⟨_,hK,?_⟩
 clear hK
 refine ACalls.fW aA TblOk.nil Tryz.func104 [.tmp 2] (Nat.le_refl _) (T:=au []) (h:=fun hcl hlt=>?_)
 clear hlt
 simp only [go_sem,bk]
 have e95:(((c.toNat:Nat):Int)==95)=(c==95):=by rw [Bool.eq_iff_iff];simp [← UInt8.toNat_inj];omega
 rw [e95]
 have fin:∀ {t:Bool},cn c=t→ae H (AV.bool t) H (AV.bool (cn c)):=fun e=>by
  rw [e]
  simp (disch:=first|assumption|omega|(simp;done)|(simp;omega)|(simp only [bt,and_true];first|done|omega|(simp;done))) [↓zmk,beq,ybc,ybd,ybe,ae,wk,wk2,wk1,wkM,wkL,al,ybf,hcl]
 have tl:cp c=false→ik (decide ((c.toNat:Int) ≥ 48)) (ik (decide ((c.toNat:Int)≤57)) (ae H (AV.bool true) H (AV.bool (cn c))) (ae H (AV.bool (c==95)) H (AV.bool (cn c)))) (ae H (AV.bool (c==95)) H (AV.bool (cn c))):=fun h1=>by
  refine bf (fun h2=>?_) (fun h2=>?_)
  ·have h2':48≤c.toNat:=by simp at h2;omega
   refine bf (fun h3=>?_) (fun h3=>?_)
   ·have h3':c.toNat≤57:=by simp at h3;omega
    exact fin (by unfold cn;rw [decide_eq_true h2',decide_eq_true h3'];simp)
   ·have h3':¬ c.toNat≤57:=by simp at h3;omega
    exact fin (by unfold cn;rw [decide_eq_false h3',h1];simp)
  ·have h2':¬ 48≤c.toNat:=by simp at h2;omega
   exact fin (by unfold cn;rw [decide_eq_false h2',h1];simp)
 refine bf (fun h1=>bf (fun h2=>?_) (fun h2=>tl ?_)) (fun h1=>tl ?_)
 ·exact fin (by unfold cn cp;simp at h1 h2;rw [decide_eq_true (by omega),decide_eq_true (by omega)];simp)
 ·unfold cp;simp at h2;rw [decide_eq_false (p:=c.toNat≤122) (by omega)];simp
 ·unfold cp;simp at h1;rw [decide_eq_false (p:=97≤c.toNat) (by omega)];simp
def su:List AV→AHeap→(AV→Prop)→Prop
 |[.str s],_,K=>s.length≤140737488355328∧K (.int .i64 ((ci s).length:Int))
 |_,_,_=>False
theorem zL:EntOk Tryz.prog 62 (Ent.pure su):=by
 refine EntOk.pure fun args H K h=>?_
 unfold su at h
 split at h
 rotate_left
 ·exact h.elim
 rename_i s
 obtain ⟨hsl,hK⟩:=h
 refine ⟨_,hK,?_⟩
 clear hK
 refine ACalls.fW aA (TblOk.cons Af TblOk.nil) Tryz.func62 [.tmp 2] (Nat.le_refl _) (T:=au []) (h:=fun hcl hlt=>?_)
 clear hlt
 simp only [go_sem]
 refine av (A:=Nat) (fun k=>[(0,.str s),(3,.int .i64 (k:Int))]) (fun k=>H) (fun k=>k≤s.length∧ci s=s.take k++ci (s.drop k)) (fun k=>s.length - k) 0 ⟨by omega,by simp⟩ ?_ fun k hk=>?_
 ·(simp only [bkq,enterW,aS,ltF,ne_eq,Nat.reduceEqDiff,reduceCtorEq];try simp (disch:=first|assumption|omega|(simp;done)|(simp;omega)|(simp only [bt,and_true];first|done|omega|(simp;done))) [↓zmk,beq,ybc,ybd,ybe,ae,wk,wk2,wk1,wkM,wkL,al,ybf,byq,biq,af,hcl];try (repeat' (first|assumption|omega|exact True.intro|refine And.intro ?_ ?_|refine ag ?_|refine aa ?_|refine ac ?_ ?_|refine ah ?_ ?_|refine ai ?_|exact AHeap.Le.refl _|refine AHeap.Le.push ?_ _|refine AHeap.Le.del ?_ ?_|(simp only [bt,and_true,true_and];first|done|omega|(simp;done)))))
 obtain ⟨hk,hs⟩:=hk
 have hmin:(s.take k).length=k:=by rw [List.length_take];omega
 simp only [go_sem]
 refine bf (fun h1=>?_) (fun h1=>?_)
 ·have hk1:k<s.length:=by simp at h1;omega
  have e5:IntKind.i64.wrap ((k:Int)+1)=((k+1:Nat):Int):=by rw [wrap_i64]<;>omega
  simp only [go_sem,rO,Int.toNat_natCast]
  refine ⟨by omega,s.getD k 0,rfl,?_⟩
  refine aj (fun h2=>?_) (fun h2=>?_)
  ·simp only [go_sem,e5]
   refine ⟨k+1,⟨by omega,qy hk1 h2 hs⟩,by omega,?_⟩
   (simp only [bkq,enterW,aS,ltF,ne_eq,Nat.reduceEqDiff,reduceCtorEq];try simp (disch:=first|assumption|omega|(simp;done)|(simp;omega)|(simp only [bt,and_true];first|done|omega|(simp;done))) [↓zmk,beq,ybc,ybd,ybe,ae,wk,wk2,wk1,wkM,wkL,al,ybf,byq,biq,af,hcl];try (repeat' (first|assumption|omega|exact True.intro|refine And.intro ?_ ?_|refine ag ?_|refine aa ?_|refine ac ?_ ?_|refine ah ?_ ?_|refine ai ?_|exact AHeap.Le.refl _|refine AHeap.Le.push ?_ _|refine AHeap.Le.del ?_ ?_|(simp only [bt,and_true,true_and];first|done|omega|(simp;done)))))
  ·have hw:=nB hk1 h2 hs
   simp only [go_sem,Int.toNat_natCast,hw,hmin]
   simp (disch:=first|assumption|omega|(simp;done)|(simp;omega)|(simp only [bt,and_true];first|done|omega|(simp;done))) [↓zmk,beq,ybc,ybd,ybe,ae,wk,wk2,wk1,wkM,wkL,al,ybf,hcl]
 ·have hk1:¬ k<s.length:=by simp at h1;omega
  have hw:=pb hk1 hs
  try simp only [go_sem,Int.toNat_natCast,hw,hmin,zau]
  simp (disch:=first|assumption|omega|(simp;done)|(simp;omega)|(simp only [bt,and_true];first|done|omega|(simp;done))) [↓zmk,beq,ybc,ybd,ybe,ae,wk,wk2,wk1,wkM,wkL,al,ybf,hcl]
theorem ll {s p:List UInt8}:fx s p=(decide (p.length≤s.length)&&(s.take p.length==p)):=by
 unfold fx
 rw [Bool.eq_iff_iff]
 simp
 intro h
 have:=congrArg List.length h
 rw [List.length_take] at this
 omega
def mT:List AV→AHeap→(AV→Prop)→Prop
 |[.str s],_,K=>K (.int .i64 ((gN s).length:Int))
 |_,_,_=>False
theorem wa:EntOk Tryz.prog 61 (Ent.pure mT):=by
 refine EntOk.pure fun args H K h=>?_
 unfold mT at h
 split at h
 rotate_left
 ·exact h.elim
 rename_i s
 refine ⟨_,h,?_⟩
 clear h
 refine ACalls.fW aA TblOk.nil Tryz.func61 [.tmp 2] (Nat.le_refl _) (T:=au []) (h:=fun hcl hlt=>?_)
 clear hlt
 simp only [go_sem,zR,ak]
 refine av (A:=Nat) (fun k=>[(0,.str s),(5,.slice .any 1 (sAV syms)),(6,.int .i64 15),(7,.int .i64 (k:Int))]) (fun k=>H) (fun k=>k≤15∧gN s=pA (syms.drop k) s) (fun k=>15 - k) 0 ⟨by omega,rfl⟩ ?_ fun k hk=>?_
 ·(simp only [bkq,enterW,aS,ltF,ne_eq,Nat.reduceEqDiff,reduceCtorEq,bU,eH];try simp (disch:=first|assumption|omega|(simp;done)|(simp;omega)|(simp only [bt,and_true];first|done|omega|(simp;done))) [↓zmk,beq,ybc,ybd,ybe,ae,wk,wk2,wk1,wkM,wkL,al,ybf,byq,biq,af,hcl,bU,eH];try (repeat' (first|assumption|omega|exact True.intro|refine And.intro ?_ ?_|refine ag ?_|refine aa ?_|refine ac ?_ ?_|refine ah ?_ ?_|refine ai ?_|exact AHeap.Le.refl _|refine AHeap.Le.push ?_ _|refine AHeap.Le.del ?_ ?_|(simp only [bt,and_true,true_and,bU,eH];first|done|omega|(simp;done)))))
  trace_state
 obtain ⟨hk,hs⟩:=hk
 simp only [go_sem]
 refine aj (fun h1=>?_) (fun h1=>?_)
 ·have hk2:k<15:=by simp at h1;omega
  have hk1:k<syms.length:=by rw [eH];exact hk2
  have hg:(sAV syms).getD k .junk=.str (syms.getD k []):=j7 hk1
  have e5:IntKind.i64.wrap ((k:Int)+1)=((k+1:Nat):Int):=by rw [wrap_i64]<;>omega
  have hgk:syms.getD k []=syms[k]:=by simp [List.getD_eq_getElem?_getD,hk1]
  rw [List.drop_eq_getElem_cons hk1,qo] at hs
  rw [hgk] at hg
  generalize syms[k]=x at *
  simp only [go_sem,Int.toNat_natCast,ak,eH,hg,e5]
  refine ⟨by omega,?_⟩
  refine bf (fun h2=>?_) (fun h2=>?_)
  ·have h2':x.length≤s.length:=by simp at h2;omega
   refine ⟨by omega,aj (fun h3=>?_) (fun h3=>?_)⟩
   ·rw [if_pos (by rw [ll,decide_eq_true h2'];simpa using h3)] at hs
    simp only [go_sem,hs]
    simp (disch:=first|assumption|omega|(simp;done)|(simp;omega)|(simp only [bt,and_true];first|done|omega|(simp;done))) [↓zmk,beq,ybc,ybd,ybe,ae,wk,wk2,wk1,wkM,wkL,al,ybf,hcl]
   ·rw [if_neg (by rw [ll,decide_eq_true h2'];simpa using h3)] at hs
    simp only [go_sem,e5]
    refine ⟨k+1,⟨by omega,hs⟩,by omega,?_⟩
    (simp only [bkq,enterW,aS,ltF,ne_eq,Nat.reduceEqDiff,reduceCtorEq,bU];try simp (disch:=first|assumption|omega|(simp;done)|(simp;omega)|(simp only [bt,and_true];first|done|omega|(simp;done))) [↓zmk,beq,ybc,ybd,ybe,ae,wk,wk2,wk1,wkM,wkL,al,ybf,byq,biq,af,hcl,bU];try (repeat' (first|assumption|omega|exact True.intro|refine And.intro ?_ ?_|refine ag ?_|refine aa ?_|refine ac ?_ ?_|refine ah ?_ ?_|refine ai ?_|exact AHeap.Le.refl _|refine AHeap.Le.push ?_ _|refine AHeap.Le.del ?_ ?_|(simp only [bt,and_true,true_and,bU];first|done|omega|(simp;done)))))
  ·have h2':¬ x.length≤s.length:=by simp at h2;omega
   rw [if_neg (by rw [ll,decide_eq_false h2'];simp)] at hs
   try simp only [go_sem,e5,zau]
   refine ⟨k+1,⟨by omega,hs⟩,by omega,?_⟩
   (simp only [bkq,enterW,aS,ltF,ne_eq,Nat.reduceEqDiff,reduceCtorEq,bU];try simp (disch:=first|assumption|omega|(simp;done)|(simp;omega)|(simp only [bt,and_true];first|done|omega|(simp;done))) [↓zmk,beq,ybc,ybd,ybe,ae,wk,wk2,wk1,wkM,wkL,al,ybf,byq,biq,af,hcl,bU];try (repeat' (first|assumption|omega|exact True.intro|refine And.intro ?_ ?_|refine ag ?_|refine aa ?_|refine ac ?_ ?_|refine ah ?_ ?_|refine ai ?_|exact AHeap.Le.refl _|refine AHeap.Le.push ?_ _|refine AHeap.Le.del ?_ ?_|(simp only [bt,and_true,true_and,bU];first|done|omega|(simp;done)))))
 ·have hk1:k=15:=by simp at h1;omega
  subst hk1
  have h0:gN s=[]:=by rw [hs];rfl
  simp only [go_sem,h0]
  simp (disch:=first|assumption|omega|(simp;done)|(simp;omega)|(simp only [bt,and_true];first|done|omega|(simp;done))) [↓zmk,beq,ybc,ybd,ybe,ae,wk,wk2,wk1,wkM,wkL,al,ybf,hcl]
def nJ:List AV→AHeap→(AV→Prop)→Prop
 |[.str s],_,K=>s.length≤140737488355328∧K (jU s)
 |_,_,_=>False
theorem qd {s:List UInt8} {k kd:Nat} {x:List UInt8} (h:iM (s.drop k)=some (kd,x)):(s.take (k+x.length)).drop k=x:=by
 rw [List.drop_take,Nat.add_sub_cancel_left]
 exact (iL h).2.2
theorem DX {w:List UInt8}:lit (95::w)=none:=by
 unfold lit
 rw [if_neg (by simp [fx]),if_neg (by simp)]
 rfl
theorem y3 {s w:List UInt8} {c:UInt8} {k:Nat} (h:k<s.length) (hw:ci (s.drop k)=c::w):s[k]=c∧cn c=true:=by
 have e:s.getD k 0=s[k]:=by simp [List.getD_eq_getElem?_getD,h]
 rw [jo h] at hw
 split at hw
 ·rename_i hp
  rw [e] at hw hp
  injection hw with h1 h2
  subst h1
  exact ⟨rfl,hp⟩
 ·cases hw
theorem Bh:EntOk Tryz.prog 24 (Ent.pure nJ):=by
 refine EntOk.pure fun args H K h=>?_
 unfold nJ at h
 split at h
 rotate_left
 ·exact h.elim
 rename_i s
 obtain ⟨hsl,hK⟩:=h
 refine ⟨_,hK,?_⟩
 clear hK
 refine ACalls.fW aA (TblOk.cons wa (TblOk.cons zL (TblOk.cons ul TblOk.nil))) Tryz.func24 [.tmp 2,.tmp 3,.tmp 4] (Nat.le_refl _) (T:=au []) (h:=fun hcl hlt=>?_)
 clear hlt
 simp only [go_sem,jU]
 refine aj (fun h1=>?_) (fun h1=>?_)
 ·have h1':400<s.length:=by simp at h1;omega
  have e:bx s=([],0,3):=by unfold bx;rw [if_pos h1']
  simp only [go_sem,e,c9]
  simp (disch:=first|assumption|omega|(simp;done)|(simp;omega)|(simp only [bt,and_true];first|done|omega|(simp;done))) [↓zmk,beq,ybc,ybd,ybe,ae,wk,wk2,wk1,wkM,wkL,al,ybf,hcl,fl]
 have h1':¬ 400<s.length:=by simp at h1;omega
 simp only [go_sem]
 refine av (A:=Nat × List Tok × Nat × AHeap) (fun a=>[(0,.str s),(5,.slice (.own a.2.2.1) 3 (cb a.2.1)),(6,.int .i64 (a.1:Int))]) (fun a=>a.2.2.2)
  (fun a=>(a.1≤s.length∧a.2.1.length≤a.1∧rest s 0=(a.2.1++(rest s a.1).1,(rest s a.1).2))∧H.Le a.2.2.2∧a.2.2.2.Closed∧H.nx≤a.2.2.1∧a.2.2.2.get a.2.2.1=some (.buf 3 a.2.1.length))
  (fun a=>s.length - a.1) (0,[],H.nx+1,(H.push (.buf 3 0)).push (.buf 3 0)) ⟨⟨by omega,by simp,by simp⟩,?_,?_,by simp,?_⟩ ?_ fun a ha=>?_
 ·simp (disch:=first|assumption|omega|(simp;done)|(simp;omega)|(simp only [bt,and_true];first|done|omega|(simp;done))) [↓zmk,beq,ybc,ybd,ybe,ae,wk,wk2,wk1,wkM,wkL,al,ybf,hcl]
 ·(repeat' (first|assumption|omega|exact True.intro|refine And.intro ?_ ?_|refine ag ?_|refine aa ?_|refine ac ?_ ?_|refine ah ?_ ?_|refine ai ?_|exact AHeap.Le.refl _|refine AHeap.Le.push ?_ _|refine AHeap.Le.del ?_ ?_|(simp only [bt,and_true,true_and];first|done|omega|(simp;done))))
 ·exact AHeap.get_push_new _ _
 ·(simp only [bkq,enterW,aS,ltF,ne_eq,Nat.reduceEqDiff,reduceCtorEq,c9];try simp (disch:=first|assumption|omega|(simp;done)|(simp;omega)|(simp only [bt,and_true];first|done|omega|(simp;done))) [↓zmk,beq,ybc,ybd,ybe,ae,wk,wk2,wk1,wkM,wkL,al,ybf,byq,biq,af,hcl,c9];try (repeat' (first|assumption|omega|exact True.intro|refine And.intro ?_ ?_|refine ag ?_|refine aa ?_|refine ac ?_ ?_|refine ah ?_ ?_|refine ai ?_|exact AHeap.Le.refl _|refine AHeap.Le.push ?_ _|refine AHeap.Le.del ?_ ?_|(simp only [bt,and_true,true_and,c9];first|done|omega|(simp;done)))))
 obtain ⟨k,pre,id,Hc⟩:=a
 obtain ⟨⟨hk,hpl,hr⟩,hle,hcc,hid,hst⟩:=ha
 dsimp only at hk hpl hr hle hcc hid hst ⊢
 have hnx:H.nx≤Hc.nx:=hle.nx
 have hid2:id<Hc.nx:=AHeap.get_lt hst
 simp only [go_sem]
 refine aj (fun h2=>?_) (fun h2=>?_)
 ·have hk1:k<s.length:=by simp at h2;omega
  have e5:IntKind.i64.wrap ((k:Int)+1)=((k+1:Nat):Int):=by rw [wrap_i64]<;>omega
  have hsg:s.getD k 0=s[k]:=by simp [List.getD_eq_getElem?_getD,hk1]
  simp only [go_sem,Int.toNat_natCast,List.take_length,hsg]
  refine ⟨by omega,aj (fun h3=>?_) (fun h3=>?_)⟩
  ·have hc:s[k]=32:=by simp at h3;rw [← UInt8.toNat_inj];simp;omega
   rw [ol hk1 hc] at hr
   simp only [go_sem,e5]
   refine ⟨(k+1,pre,id,Hc),⟨⟨by dsimp only;omega,by dsimp only;omega,hr⟩,hle,hcc,hid,hst⟩,by dsimp only;omega,?_⟩
   (simp only [bkq,enterW,aS,ltF,ne_eq,Nat.reduceEqDiff,reduceCtorEq,hcc,hnx,hid2];try simp (disch:=first|assumption|omega|(simp;done)|(simp;omega)|(simp only [bt,and_true];first|done|omega|(simp;done))) [↓zmk,beq,ybc,ybd,ybe,ae,wk,wk2,wk1,wkM,wkL,al,ybf,byq,biq,af,hcl,hcc,hnx,hid2];try (repeat' (first|assumption|omega|exact True.intro|refine And.intro ?_ ?_|refine ag ?_|refine aa ?_|refine ac ?_ ?_|refine ah ?_ ?_|refine ai ?_|exact AHeap.Le.refl _|refine AHeap.Le.push ?_ _|refine AHeap.Le.del ?_ ?_|(simp only [bt,and_true,true_and,hcc,hnx,hid2];first|done|omega|(simp;done)))))
   exact jJ hid2
  have n1:(id=Hc.nx)=False:=eq_false (by omega)
  have n2:(id=Hc.nx+1)=False:=eq_false (by omega)
  have n3:(id=Hc.nx+1+1)=False:=eq_false (by omega)
  have hc:s[k]≠32:=fun e=>by rw [e] at h3;simp at h3
  have hsd:(s.drop k).length≤400:=by rw [List.length_drop];omega
  simp only [go_sem,mT,su,List.take_length,Int.toNat_natCast]
  refine ⟨by omega,by omega,by omega,?_⟩
  cases hw:ci (s.drop k) with
  |nil =>
   refine aj (fun h4=>by simp at h4) (fun _=>?_)
   simp only [go_sem]
   refine aj (fun h5=>?_) (fun h5=>?_)
   ·have hy:gN (s.drop k)=[]:=by simp at h5;exact h5
    have htk:=re hw hy
    rw [jH hk1 hc htk,yaj] at hr
    have hsc:=iF h1' hr
    simp only [go_sem,hsc,hy,c9]
    simp (disch:=first|assumption|omega|(simp;done)|(simp;omega)|(simp only [bt,and_true];first|done|omega|(simp;done))) [↓zmk,beq,ybc,ybd,ybe,ae,wk,wk2,wk1,wkM,wkL,al,ybf,hcc,hle,hcl]
    exact (hle.push _).push _
   ·have hy:gN (s.drop k)≠[]:=by intro e;rw [e] at h5;simp at h5
    have htk:=tL hw rfl hy
    obtain ⟨hy1,hy2⟩:=lH hk1 htk
    have hx:=qd htk
    generalize gN (s.drop k)=y at *
    have e6:IntKind.i64.wrap ((k:Int)+(y.length:Int))=((k+y.length:Nat):Int):=by rw [wrap_i64]<;>omega
    simp only [go_sem,Int.toNat_natCast,n1,n2,hst,hx,aE,zH,e6,mW]
    refine ⟨by omega,by omega,ka hk1 hc htk hpl hr (((cr hle hid).push _).push _) ?_ hid ?_ rfl rfl rfl⟩
    ·exact ag (ac (aa hcc) (by simp [znq,znr,znb,znd]))
    ·rw [AHeap.get_push_lt _ _ (by simp [AHeap.push,AHeap.set];omega),AHeap.get_push_lt _ _ (by simp [AHeap.set];omega),AHeap.get_set_same _ _ hid2]
  |cons c w =>
   obtain ⟨hsc0,hpt⟩:=y3 hk1 hw
   have hcw:(c::w).length≤400:=by rw [← hw];exact Nat.le_trans (List.takeWhile_sublist _).length_le hsd
   have hx:(s.take (k+(w.length+1))).drop k=c::w:=by
    rw [show w.length+1=(c::w).length from rfl,List.drop_take,Nat.add_sub_cancel_left,← hw];exact gM _
   have hy2:k+(c::w).length≤s.length:=by
    have:=(List.takeWhile_sublist (p:=cn) (l:=s.drop k)).length_le
    rw [show (s.drop k).takeWhile cn=c::w from hw,List.length_drop] at this
    simp only [yaz] at this ⊢;omega
   have e6:IntKind.i64.wrap ((k:Int)+((w.length+1:Nat):Int))=((k+(c::w).length:Nat):Int):=by
    rw [yaz] at hy2 ⊢
    rw [wrap_i64]<;>omega
   refine aj (fun _=>?_) (fun h4=>by simp at h4)
   simp only [go_sem,Int.toNat_natCast,hsg,hsc0]
   refine ⟨by omega,aj (fun h5=>?_) (fun h5=>?_)⟩
   ·have hc95:c=95:=by simp at h5;rw [← UInt8.toNat_inj];simp;omega
    subst hc95
    have htk:=n8 hw (by decide) DX
    rw [jH hk1 hc htk,yaj] at hr
    have hsc:=iF h1' hr
    simp only [go_sem,hsc,c9]
    simp (disch:=first|assumption|omega|(simp;done)|(simp;omega)|(simp only [bt,and_true];first|done|omega|(simp;done))) [↓zmk,beq,ybc,ybd,ybe,ae,wk,wk2,wk1,wkM,wkL,al,ybf,hcc,hle,hcl]
    exact (hle.push _).push _
   have hc95:c≠95:=fun e=>by rw [e] at h5;simp at h5
   simp only [go_sem,Int.toNat_natCast,hsg,hsc0]
   refine ⟨by omega,aj (fun h6=>?_) (fun h6=>?_)⟩
   ·have hlc:cp c=false:=by unfold cp;simp at h6;rw [decide_eq_false (p:=97≤c.toNat) (by omega)];simp
    simp only [go_sem,Int.toNat_natCast,k8,e6,hx]
    cases hli:lit (c::w) with
    |none =>
     have htk:=n8 hw hlc hli
     rw [jH hk1 hc htk,yaj] at hr
     have hsc:=iF h1' hr
     simp only [go_sem,hsc,kZ,zAV,zau,zat,c9]
     refine ⟨by simp only [yaz] at hy2;omega,by simp only [yaz] at hcw;omega,?_⟩
     simp (disch:=first|assumption|omega|(simp;done)|(simp;omega)|(simp only [bt,and_true];first|done|omega|(simp;done))) [↓zmk,beq,ybc,ybd,ybe,ae,wk,wk2,wk1,wkM,wkL,al,ybf,hcc,hle,hcl]
     exact ((hle.push _).push _).push _
    |some n =>
     have htk:=ur hw hlc hli
     simp only [go_sem,kZ,zAV,zau,zat]
     refine ⟨by simp only [yaz] at hy2;omega,by simp only [yaz] at hcw;omega,aj (fun h7=>by simp at h7;omega) (fun _=>?_)⟩
     simp only [go_sem,Int.toNat_natCast,n1,n2,n3,hst,hx,aE,BD,e6,mW]
     refine ⟨by simp only [yaz] at hy2;omega,by omega,ka hk1 hc htk hpl hr ((((cr hle hid).push _).push _).push _) ?_ hid ?_ rfl rfl rfl⟩
     ·exact ag (ac (ac (aa hcc) (by simp [znq,znr,znb,znd])) (by simp [znq,znr,znc,zmi]))
     ·rw [AHeap.get_push_lt _ _ (by simp [AHeap.push,AHeap.set];omega),AHeap.get_push_lt _ _ (by simp [AHeap.push,AHeap.set];omega),AHeap.get_push_lt _ _ (by simp [AHeap.set];omega),AHeap.get_set_same _ _ hid2]
   ·have hlc:cp c=true:=by
     unfold cn at hpt
     simp at h6
     rw [decide_eq_false (p:=c.toNat≤57) (by omega),beq_eq_false_iff_ne.2 hc95] at hpt
     simpa using hpt
    have htk:=tc hw hlc
    simp only [go_sem,Int.toNat_natCast]
    refine aj (fun h7=>by simp at h7;omega) (fun _=>?_)
    simp only [go_sem,Int.toNat_natCast,n1,n2,hst,hx,aE,zv,e6,mW]
    refine ⟨by simp only [yaz] at hy2;omega,by omega,ka hk1 hc htk hpl hr (((cr hle hid).push _).push _) ?_ hid ?_ rfl rfl rfl⟩
    ·exact ag (ac (aa hcc) (by simp [znq,znr,znb,znd]))
    ·rw [AHeap.get_push_lt _ _ (by simp [AHeap.push,AHeap.set];omega),AHeap.get_push_lt _ _ (by simp [AHeap.set];omega),AHeap.get_set_same _ _ hid2]
 ·have hk1:s.length≤k:=by simp at h2;omega
  rw [uH hk1,yaj] at hr
  have hsc:=qD h1' hr
  simp only [go_sem,hsc]
  simp (disch:=first|assumption|omega|(simp;done)|(simp;omega)|(simp only [bt,and_true];first|done|omega|(simp;done))) [↓zmk,beq,ybc,ybd,ybe,ae,wk,wk2,wk1,wkM,wkL,al,ybf,hcc,hle,wR,hcl]
end Go.AL
open Go Go.AL Go.Proofs
namespace Go.AL
set_option linter.all false
set_option maxRecDepth 10000
theorem AK:ti Tryz.prog 73=some ⟨.struct [(0,22,false),(1,3,false)],2,32,.agg [.slice .nil 1 [],.int .i64 0]⟩:=by kernel_rfl
attribute [go_sem] AK
theorem tM {H:AHeap} {i:Nat} {o:AObj} (h:H.get i=some o):(H.set i o).Le H:=⟨Nat.le_refl _,fun j x hj=>by
 rcases AHeap.get_set_inv _ _ hj with ⟨rfl,rfl,_⟩|⟨_,h2⟩
 ·exact h
 ·exact h2⟩
def mj:List AV→AHeap→(AV→Prop)→Prop
 |[.ptr id 0],H,K=>∃ b a,(H.get id=some (.cells [.slice .any 1 (bys b),.int .i64 a]))∧K (.bool (decide (a<(b.length:Int))))
 |_,_,_=>False
theorem zO:EntOk Tryz.prog 39 (Ent.pure mj):=by
 refine EntOk.pure fun args H K h=>?_
 unfold mj at h
 split at h
 rotate_left
 ·exact h.elim
 rename_i id
 obtain ⟨b,a,hg,hK⟩:=h
 refine ⟨_,hK,?_⟩
 clear hK
 refine ACalls.fW aA TblOk.nil Tryz.func39 [.tmp 2] (Nat.le_refl _) (T:=au []) (h:=fun hcl hlt=>?_)
 clear hlt
 have hcs:=aJ hg
 simp only [go_sem,hcs,zlg]
 simp (disch:=first|assumption|omega|(simp;done)|(simp;omega)|(simp only [bt,and_true];first|done|omega|(simp;done))) [↓zmk,beq,ybc,ybd,ybe,ae,wk,wk2,wk1,wkM,wkL,al,ybf,hcl]
def cod (b:List UInt8) (a:Int):AObj:=.cells [.slice .any 1 (bys b),.int .i64 a]
def bD:List AV→AHeap→(AV→AHeap→Prop)→Prop
 |[.ptr id 0,.int .i64 n],H,K=>∃ b a,(H.get id=some (cod b a)∧(0≤a∧a≤(b.length:Int))∧b.length≤140737488355328∧1≤n∧n≤1000000) ∧
   ∀ r a',0≤r→r<n→0≤a'→a'≤(b.length:Int)→K (.int .i64 r) (H.set id (cod b a'))
 |_,_,_=>False
theorem mi:EntOk Tryz.prog 18 (Ent.some bD):=by
 refine EntOk.some fun args H K h=>?_
 unfold bD at h
 split at h
 rotate_left
 ·exact h.elim
 rename_i id n
 obtain ⟨b,a,⟨hg,⟨ha1,ha2⟩,hb,hn1,hn2⟩,hK⟩:=h
 refine ACallsP.of_aw (Ω:=[(39,Ent.pure mj)]) (T:=au [(4,[[],[],[],[],[],[],[],[],[],[],[],[3,7,10]])]) aA (TblOk.cons zO TblOk.nil) Tryz.func18 (by kernel_rfl) (by rfl) (rs:=[.tmp 4]) (by rfl) (by kernel_rfl) (by simp only [Tryz.ntmps18,yaz,yba];decide) fun hcl hlt=>?_
 change aw _ _ _ (KI Tryz.prog [(39,Ent.pure mj)] (fa Tryz.prog [.tmp 4] H.nx _ (au [(4,[[],[],[],[],[],[],[],[],[],[],[],[3,7,10]])])) []) _ _
 clear hlt
 have hcs:=aJ hg
 have hid:=AHeap.get_lt hg
 simp only [go_sem,mj]
 refine ⟨b,a,hg,?_⟩
 have hcl2:∀ a',(H.set id (cod b a')).Closed:=fun a'=>ah hcl (by simp [znq,znr,znb,zmo])
 refine bf (fun h1=>?_) (fun h1=>aj (fun h2=>by simp at h2;omega) (fun h2=>?_))
 ·refine ⟨_,_,hK 0 a (by omega) (by omega) ha1 ha2,Nat.le_refl _,?_⟩
  simp (disch:=first|assumption|omega|(simp;done)|(simp;omega)|(simp only [bt,and_true];first|done|omega|(simp;done))) [↓zmk,beq,ybc,ybd,ybe,ae,wk,wk2,wk1,wkM,wkL,al,ybf,hcl2]
  exact tM hg
 have h1':a<(b.length:Int):=by simp at h1;omega
 obtain ⟨k,rfl⟩:=Int.eq_ofNat_of_zero_le ha1
 have hk:k<b.length:=by omega
 have e1:IntKind.i64.wrap ((k:Int)+1)=((k+1:Nat):Int):=by rw [wrap_i64]<;>omega
 have e2:IntKind.i64.wrap (((k+1:Nat):Int) - 1)=(k:Int):=by rw [wrap_i64]<;>omega
 have hgd:(bys b).getD k .junk=bk b[k]:=by rw [sP hk];simp [List.getD_eq_getElem?_getD,hk]
 have h8:=UInt8.toNat_lt b[k]
 have e3:IntKind.i64.wrap ((b[k].toNat:Nat):Int)=((b[k].toNat:Nat):Int):=by rw [wrap_i64]<;>omega
 simp only [go_sem,hcs,e1,cM hid,e2,Int.toNat_natCast,hgd,zlg,bk,e3]
 have ht:(((b[k].toNat:Nat):Int)).tmod n=((b[k].toNat:Nat):Int) % n:=Int.tmod_eq_emod_of_nonneg (by omega)
 have ht1:=Int.emod_nonneg ((b[k].toNat:Nat):Int) (show n≠0 by omega)
 have ht2:=Int.emod_lt_of_pos ((b[k].toNat:Nat):Int) (show 0<n by omega)
 rw [ht]
 refine ⟨by omega,by omega,_,_,hK _ ((k+1:Nat):Int) ht1 ht2 (by omega) (by omega),Nat.le_refl _,?_⟩
 simp (disch:=first|assumption|omega|(simp;done)|(simp;omega)|(simp only [bt,and_true];first|done|omega|(simp;done))) [↓zmk,beq,ybc,ybd,ybe,ae,wk,wk2,wk1,wkM,wkL,al,ybf,hcl2,cod]
def v5:List AV→AHeap→(AEnd→AHeap→Prop)→Prop
 |[.slice m 1 l,.int .i64 n],H,K=>∃ b,(l=bys b∧0≤n)∧K (.ret (.ptr H.nx 0)) (H.push (cod (b.take (min (b.length:Int) n).toNat) 0))
 |_,_,_=>False
theorem C3:EntOk Tryz.prog 6 (Ent.effect v5):=by
 refine EntOk.effect fun args H K h=>?_
 unfold v5 at h
 split at h
 rotate_left
 ·exact h.elim
 rename_i m l n
 obtain ⟨b,⟨rfl,hn⟩,hK⟩:=h
 refine ⟨_,_,hK,?_⟩
 clear hK
 refine ACalls.fW aA TblOk.nil Tryz.func6 [.tmp 4] (Nat.le_succ _) (T:=au []) (h:=fun hcl hlt=>?_)
 clear hlt
 simp only [go_sem,zlg,yap,zli]
 refine ⟨by omega,?_⟩
 simp (disch:=first|assumption|omega|(simp;done)|(simp;omega)|(simp only [bt,and_true];first|done|omega|(simp;done))) [↓zmk,beq,ybc,ybd,ybe,ae,wk,wk2,wk1,wkM,wkL,al,ybf,hcl,cod]
 (repeat' (first|assumption|omega|exact True.intro|refine And.intro ?_ ?_|refine ag ?_|refine aa ?_|refine ac ?_ ?_|refine ah ?_ ?_|refine ai ?_|exact AHeap.Le.refl _|refine AHeap.Le.push ?_ _|refine AHeap.Le.del ?_ ?_|(simp only [bt,and_true,true_and,zmo];first|done|omega|(simp;done))))
theorem mod_lt {x n:Int} (hn:1≤n):0≤(x.tmod n+n).tmod n∧(x.tmod n+n).tmod n<n:=by
 have h1:=Int.lt_tmod_of_pos x (show 0<n by omega)
 rw [Int.tmod_eq_emod_of_nonneg (by omega)]
 exact ⟨Int.emod_nonneg _ (by omega),Int.emod_lt_of_pos _ (by omega)⟩
theorem Ay {l:List Tok} {k:Nat} (h:k<l.length):(cb l).getD k .junk=sy l[k]:=by simp [cb,List.getD_eq_getElem?_getD,h]
end Go.AL
