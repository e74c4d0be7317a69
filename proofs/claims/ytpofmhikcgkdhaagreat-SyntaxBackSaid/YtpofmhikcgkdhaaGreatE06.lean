/- Lemmas of the proof; no condition. -/
import Derived.Test.YtpofmhikcgkdhaaGreatN05d
set_option linter.all false
set_option maxRecDepth 10000
set_option maxHeartbeats 32000000
open List renaming length_cons → yaz, take_succ_cons → yaq, drop_eq_nil_of_le → ybf, length_nil → yba, take_of_length_le → ybc, drop_append → ybd, take_append → ybe, append_nil → yaj, drop_zero → yap
open Go Go.AL
namespace Go.AL
def bF (c:UInt8):Bool:=decide (97≤c.toNat)&&decide (c.toNat≤122)
def bG (c:UInt8):Bool:=bF c||(decide (48≤c.toNat)&&decide (c.toNat≤57))||c==95
def syms:List (List UInt8):=[[38,38],[124,124],[45,62],[61,61],[33,61],[60,61],[62,61],[58,58],[40],[41],[33],[60],[62],[43],[45]]
def jh (l:List (List UInt8)) (s:List UInt8):List UInt8:=match l with
 |[]=>[]
 |x::l=>if dw s x then x else jh l s
def dN (s:List UInt8):List UInt8:=jh syms s
def bP (s:List UInt8):List UInt8:=s.takeWhile bG
abbrev Tok:=Nat × List UInt8 × Nat
def fx (s:List UInt8):Option (Nat × List UInt8) :=
 match bP s with
 |[]=>match dN s with
  |[]=>none
  |x=>some (3,x)
 |c::w=>if bF c then some (2,c::w) else if (lit (c::w)).isSome then some (1,c::w) else none
def cF:Nat→List UInt8→Nat→List Tok × Option Nat
 |0,_,_=>([],none)
 |_+1,[],_=>([],none)
 |f+1,c::r,k=>if c=32 then cF f r (k+1) else match fx (c::r) with
  |none=>([],some k)
  |some (kd,x)=>((kd,x,k)::(cF f ((c::r).drop x.length) (k+x.length)).1,(cF f ((c::r).drop x.length) (k+x.length)).2)
theorem wq {s:List UInt8}:∀ {l:List (List UInt8)},(∀ x∈l,x≠[])→jh l s≠[]→jh l s∈l∧dw s (jh l s)=true
 |[],_,h=>absurd rfl h
 |x::l,hl,h=>by
  unfold jh at h ⊢
  by_cases hx:dw s x=true
  ·rw [if_pos hx];exact ⟨List.mem_cons_self,hx⟩
  ·rw [if_neg hx] at h ⊢
   obtain ⟨h1,h2⟩:=wq (fun y hy=>hl y (List.mem_cons_of_mem _ hy)) h
   exact ⟨List.mem_cons_of_mem _ h1,h2⟩
theorem BN:∀ x∈syms,x≠[]:=by decide
theorem oL {s p:List UInt8} (h:dw s p=true):p.length≤s.length∧s.take p.length=p:=by
 have h2:=eq_of_beq h
 have:=congrArg List.length h2
 rw [List.length_take] at this
 exact ⟨by omega,h2⟩
theorem gz {p:UInt8→Bool}:∀ (s:List UInt8),s.take (s.takeWhile p).length=s.takeWhile p
 |[]=>rfl
 |c::s=>by
  by_cases h:p c=true
  ·rw [List.takeWhile_cons_of_pos h,yaz,yaq,gz s]
  ·rw [List.takeWhile_cons_of_neg h];rfl
theorem iJ {s:List UInt8} {kd:Nat} {x:List UInt8} (h:fx s=some (kd,x)):x≠[]∧x.length≤s.length∧s.take x.length=x:=by
 unfold fx at h
 split at h
 ·split at h
  ·cases h
  ·rename_i y hy
   injection h with h
   injection h with h1 h2
   subst h2
   obtain ⟨_,h4⟩:=wq BN (s:=s) hy
   exact ⟨hy,oL h4⟩
 ·rename_i c w hw
  have hx:x=c::w:=by
   split at h
   ·injection h with h;injection h with h1 h2;exact h2.symm
   ·split at h
    ·injection h with h;injection h with h1 h2;exact h2.symm
    ·cases h
  subst hx
  refine ⟨by simp,?_,?_⟩
  ·rw [← hw];exact (List.takeWhile_sublist _).length_le
  ·rw [← hw];exact gz s
theorem fw:∀ (f g:Nat) (s:List UInt8) (k:Nat),s.length≤f→s.length≤g→cF f s k=cF g s k
 |0,0,_,_,_,_=>rfl
 |0,g+1,s,k,h,_=>by
  have:s=[]:=List.eq_nil_of_length_eq_zero (by omega)
  subst this;rfl
 |f+1,0,s,k,_,h=>by
  have:s=[]:=List.eq_nil_of_length_eq_zero (by omega)
  subst this;rfl
 |f+1,g+1,[],k,_,_=>rfl
 |f+1,g+1,c::r,k,h1,h2=>by
  simp only [yaz] at h1 h2
  unfold cF
  split
  ·exact fw f g r (k+1) (by omega) (by omega)
  ·split
   ·rfl
   ·rename_i kd x hx
    obtain ⟨h3,h4,_⟩:=iJ hx
    have h5:0<x.length:=List.length_pos_iff.2 h3
    have e:=fw f g ((c::r).drop x.length) (k+x.length) (by rw [List.length_drop,yaz];omega) (by rw [List.length_drop,yaz];omega)
    rw [e]
def rest (s:List UInt8) (k:Nat):List Tok × Option Nat:=cF s.length (s.drop k) k
theorem tI {s:List UInt8} {k:Nat} (h:s.length≤k):rest s k=([],none):=by
 unfold rest
 rw [ybf h]
 cases s.length<;>rfl
theorem pk {s:List UInt8} {k:Nat} (h:k<s.length) (h2:s[k]=32):rest s k=rest s (k+1):=by
 unfold rest
 obtain ⟨f,hf⟩:∃ f,s.length=f+1:=⟨s.length - 1,by omega⟩
 rw [dcq h,h2]
 rw [hf]
 show cF (f+1) (32::s.drop (k+1)) k=_
 rw [cF,if_pos rfl]
 exact fw _ _ _ _ (by rw [List.length_drop];omega) (by rw [List.length_drop];omega)
theorem jO {s:List UInt8} {k:Nat} (h:k<s.length) (h2:s[k]≠32) (h3:fx (s.drop k)=none):rest s k=([],some k):=by
 unfold rest
 obtain ⟨f,hf⟩:∃ f,s.length=f+1:=⟨s.length - 1,by omega⟩
 rw [dcq h] at h3 ⊢
 rw [hf]
 rw [cF,if_neg h2,h3]
theorem Ad {s:List UInt8} {k kd:Nat} {x:List UInt8} (h:k<s.length) (h2:s[k]≠32) (h3:fx (s.drop k)=some (kd,x)) :
 rest s k=((kd,x,k)::(rest s (k+x.length)).1,(rest s (k+x.length)).2):=by
 obtain ⟨g1,g2,_⟩:=iJ h3
 have g3:0<x.length:=List.length_pos_iff.2 g1
 rw [List.length_drop] at g2
 unfold rest
 obtain ⟨f,hf⟩:∃ f,s.length=f+1:=⟨s.length - 1,by omega⟩
 have e:cF f ((s.drop k).drop x.length) (k+x.length)=cF s.length (s.drop (k+x.length)) (k+x.length):=by
  rw [List.drop_drop]
  exact fw _ _ _ _ (by rw [List.length_drop];omega) (by rw [List.length_drop];omega)
 rw [← e,hf]
 rw [dcq h] at h3 ⊢
 rw [cF,if_neg h2,h3]
def aT (s:List UInt8):List Tok × Nat × Nat:=if 400<s.length then ([],0,3) else match rest s 0 with
 |(l,none)=>(l,0,0)
 |(_,some k)=>([],k,10)
end Go.AL
open Go Go.AL Go.Proofs
namespace Go.AL
def fN:List AV→AHeap→(AV→Prop)→Prop
 |[x],_,K=>∃ c,x=ba c∧K (.int .i64 (dg c:Nat))
 |_,_,_=>False
theorem xW:EntOk Tryz.prog 62 (Ent.pure fN):=by
 refine Ype fun _ H K h=>?_
 unfold fN at h
 split at h
 rotate_left
 ·exact h.elim
 obtain ⟨c,rfl,hK⟩:=h
 refine ⟨_,hK,?_⟩
 clear hK
 refine ACalls.fW aE tNq Tryz.func62 [.tmp 2] (nrq _) (T:=ay []) (h:=fun hcl hlt=>?_)
 clear hlt
 have hc:c.toNat<256:=UInt8.toNat_lt c
 have w8:∀ x,IntKind.u8.wrap x=x % 256:=fun x=>by simp [IntKind.wrap,IntKind.signed,IntKind.bits]
 simp only [go_sem,ba]
 refine aP (fun h1=>?_) (fun h1=>?_)
 ·refine ah (fun h2=>?_) (fun h2=>?_)
  ·have hd:dg c=c.toNat - 48:=by unfold dg;rw [if_pos (by simp at h1 h2;omega)]
   have e:IntKind.i64.wrap (IntKind.u8.wrap ((c.toNat:Int) - 48))=(dg c:Nat):=by
    rw [w8,hd];simp at h1 h2;rw [wrap_i64]<;>omega
   simp only [go_sem,e]
   exact Z0
  ·simp only [go_sem]
   refine aP (fun h3=>?_) (fun h3=>?_)
   ·refine ah (fun h4=>?_) (fun h4=>?_)
    ·have hd:dg c=c.toNat - 87:=by unfold dg;simp at h1 h2 h3 h4;rw [if_neg (by omega),if_pos (by omega)]
     have e:IntKind.i64.wrap (IntKind.i64.wrap (IntKind.u8.wrap ((c.toNat:Int) - 97))+10)=(dg c:Nat):=by
      rw [w8,hd];simp at h1 h2 h3 h4
      have e1:IntKind.i64.wrap (((c.toNat:Int) - 97) % 256)=(c.toNat:Int) - 97:=by rw [wrap_i64]<;>omega
      rw [e1,wrap_i64]<;>omega
     simp only [go_sem,e]
     exact Z0
    ·have hd:dg c=99:=by unfold dg;simp at h1 h2 h3 h4;rw [if_neg (by omega),if_neg (by omega)]
     simp only [go_sem,hd]
     exact Z0
   ·have hd:dg c=99:=by unfold dg;simp at h1 h2 h3;rw [if_neg (by omega),if_neg (by omega)]
    try simp only [go_sem,zau,hd]
    exact Z0
 ·try simp only [go_sem,zau]
  refine aP (fun h3=>?_) (fun h3=>?_)
  ·refine ah (fun h4=>?_) (fun h4=>?_)
   ·simp at h1 h3;omega
   ·have hd:dg c=99:=by unfold dg;simp at h1 h3 h4;rw [if_neg (by omega),if_neg (by omega)]
    simp only [go_sem,hd]
    exact Z0
  ·have hd:dg c=99:=by unfold dg;simp at h1 h3;rw [if_neg (by omega),if_neg (by omega)]
   try simp only [go_sem,zau,hd]
   exact Z0
def ln (o:Option Nat):AV:=match o with
 |some n=>.tup [zAV n,.bool true]
 |none=>.tup [zAV 0,.bool false]
theorem zC {s:List UInt8} (h:¬ (2<s.length∧dw s [48,120]=true)):lit s=if s=[] then none else cz 10 0 s:=by
 unfold lit
 by_cases hp:dw s [48,120]=true
 ·rw [if_pos hp]
  have hl:s.length=2:=by
   have:=congrArg List.length (eq_of_beq hp)
   rw [List.length_take] at this
   simp at this
   have:¬ 2<s.length:=fun h2=>h ⟨h2,hp⟩
   omega
  have hs:s=[48,120]:=by
   have:=eq_of_beq hp
   rwa [ybc (by simp;omega)] at this
  subst hs
  decide +kernel
 ·rw [if_neg hp]
def kY:List AV→AHeap→(AV→Prop)→Prop
 |[.str s],_,K=>(s.length≤140737488355328)∧K (ln (lit s))
 |_,_,_=>False
theorem sW:EntOk Tryz.prog 39 (Ent.pure kY):=by
 refine Ype fun _ H K h=>?_
 unfold kY at h
 split at h
 rotate_left
 ·exact h.elim
 rename_i s
 obtain ⟨hl,hK⟩:=h
 refine ⟨_,hK,?_⟩
 refine ACalls.fW aE (tCq y3 (tCq xW (tCq sC (tCq z6 tNq)))) Tryz.func39 [.cell 2 86,.tmp 3] (nrq _) (T:=ay [(15,[[],[],[],[],[],[4],[0,4,5],[0,4,5,6]])]) (h:=fun hcl hlt=>?_)
 clear hlt hK
 simp only [go_sem,dh,eQ]
 refine aP (fun h1=>?_) (fun h1=>?_)
 ·have hl2:2<s.length:=by simp at h1;omega
  refine ⟨by omega,ah (fun h0=>?_) (fun h0=>?_)⟩
  ·have hp:dw s [48,120]=true:=by unfold dw;simpa using h0
   have hr:lit s=if s.drop 2=[] then none else cz 16 0 (s.drop 2):=by unfold lit;rw [if_pos hp]
   try simp only [go_sem,dh,eQ,iNq,List.take_length]
   refine ⟨by omega,by omega,?_⟩
   have hl':(s.drop 2).length≤140737488355328:=by rw [List.length_drop];omega
   rw [hr]
   clear hr hl
   generalize s.drop 2=b at *
   refine au (A:=Nat × Nat) (fun x=>[(0,.str b),(2,.ptr H.nx 0),(4,.int .i64 16),(5,.ptr (H.nx+1) 0),(6,.int .i64 (x.1:Int))])
    (fun x=>(H.push (.cells [.bool false,.slice .nil 1 []])).push (.cells [.bool (decide ((x.2:Int)<0)),.slice .any 1 (bK (bu ((x.2:Int)).natAbs))]))
    (fun x=>x.1≤b.length∧x.2<2^128∧cz 16 0 b=cz 16 x.2 (b.drop x.1)) (fun x=>b.length - x.1) (0,0) ⟨by omega,by decide,rfl⟩ ?_ fun x hI=>?_
   ·exact Z11
   obtain ⟨k,n⟩:=x
   obtain ⟨hk,hn,hl2⟩:=hI
   dsimp only at *
   simp only [go_sem,byq]
   refine ah (fun h2=>?_) (fun h2=>?_)
   ·have h2':k<b.length:=by simpa using h2
    rw [dcq h2'] at hl2
    have hg:AV.int .u8 ((b.getD k 0).toNat:Int)=ba b[k]:=by simp [gEq,h2',ba]
    have e5:=Yk5 k
    have hbn:b≠[]:=by intro h;subst h;simp at h2'
    simp only [cz] at hl2
    generalize b[k]=c at *
    have hc:dg c≤99:=by unfold dg;have:=UInt8.toNat_lt c;split<;>(try split)<;>omega
    simp only [go_sem,byq,hg,fN,dh,eQ]
    refine ⟨by omega,c,rfl,?_⟩
    simp only [go_sem,byq]
    refine ah (fun h3=>?_) (fun h3=>?_)
    ·have hd:¬ dg c<16:=by simp at h3;omega
     rw [if_neg hd] at hl2
     simp only [go_sem,byq,dh,eQ,hl2,if_neg hbn,ln]
     refine ⟨by omega,?_⟩
     exact Z0
    ·have hd:dg c<16:=by simp at h3;omega
     rw [if_pos hd] at hl2
     simp only [go_sem,byq,dh,eQ]
     refine ⟨by omega,?_⟩
     refine au (A:=Nat) (fun j=>[(0,.str b),(2,.ptr H.nx 0),(4,.int .i64 16),(5,.ptr (H.nx+1) 0),(6,.int .i64 (k:Int)),(7,.ptr (H.nx+1+1) 0),(8,.int .i64 (j:Int))])
      (fun j=>((H.push (.cells [.bool false,.slice .nil 1 []])).push (.cells [.bool (decide ((n:Int)<0)),.slice .any 1 (bK (bu ((n:Int)).natAbs))])).push (.cells [.bool (decide (((n*j:Nat):Int)<0)),.slice .any 1 (bK (bu (((n*j:Nat):Int)).natAbs))]))
      (fun j=>j≤16) (fun j=>16 - j) 0 (by omega) ?_ fun j hj=>?_
     ·exact Z12
     have hnj:n*j<2^133:=by
      have:n*j≤n*16:=Nat.mul_le_mul_left n (by omega)
      omega
     have hsj:cO ((n*j:Nat):Int):=cN 60 (by rw [Int.natAbs_natCast];omega) (by decide)
     have hsn:cO (n:Int):=cN 60 (by rw [Int.natAbs_natCast];omega) (by decide)
     simp only [go_sem,byq]
     refine ah (fun h4=>?_) (fun h4=>?_)
     ·have h4':j<16:=by simp at h4;omega
      have ej:IntKind.i64.wrap ((j:Int)+1)=((j+1:Nat):Int):=by rw [wrap_i64]<;>omega
      have en:((n*j:Nat):Int)+(n:Int)=((n*(j+1):Nat):Int):=by rw [Nat.mul_add];omega
      simp only [go_sem,byq,fc]
      refine ⟨((n*j:Nat):Int),(n:Int),⟨rfl,rfl,hsj,hsn⟩,?_⟩
      simp only [go_sem,byq,zAV,en,ej]
      refine ⟨j+1,by omega,by omega,?_⟩
      exact Z1
     ·have h4':j=16:=by simp at h4;omega
      subst h4'
      have en:((n*16:Nat):Int)+((dg c:Nat):Int)=((n*16+dg c:Nat):Int):=by omega
      have hsd:cO ((dg c:Nat):Int):=cN 10 (by rw [Int.natAbs_natCast];omega) (by decide)
      have hsf:cO ((n*16+dg c:Nat):Int):=cN 60 (by rw [Int.natAbs_natCast];omega) (by decide)
      obtain ⟨z,hz2⟩:∃ z:Int,z=((n*16+dg c:Nat):Int):=⟨_,rfl⟩
      rw [← hz2] at en hsf
      obtain ⟨y,hy⟩:∃ y:Int,y=((dg c:Nat):Int):=⟨_,rfl⟩
      simp only [go_sem,byq,fc,fN,dh,hg]
      refine ⟨by omega,c,rfl,?_⟩
      simp only [go_sem,byq,dh,fc]
      refine ⟨by omega,((n*16:Nat):Int),((dg c:Nat):Int),⟨rfl,rfl,hsj,hsd⟩,?_⟩
      refine gm (a:=n*16+dg c) (b:=2^128) (fun hf=>?_) (fun hf=>?_)
      ·rw [if_pos hf] at hl2
       have hft:decide (0≤z∧z<2^128)=true:=dtq (by omega)
       simp only [go_sem,byq,zAV,en,gQ]
       refine ⟨z,⟨rfl,hsf⟩,?_⟩
       simp only [go_sem,byq,zau,hft,e5]
       refine ⟨(k+1,n*16+dg c),⟨by omega,hf,hl2⟩,by omega,?_⟩
       exact Z10
      ·rw [if_neg (Nat.not_lt.2 hf)] at hl2
       have hft:decide (0≤z∧z<2^128)=false:=dfq (by omega)
       simp only [go_sem,byq,zAV,en,gQ]
       refine ⟨z,⟨rfl,hsf⟩,?_⟩
       simp only [go_sem,byq,zat,hft,dh,eQ,hl2,if_neg hbn,ln]
       refine ⟨by omega,?_⟩
       exact Z0
   ·have h2':k=b.length:=by simp at h2;omega
    subst h2'
    rw [List.drop_length] at hl2
    simp only [cz] at hl2
    simp only [go_sem,byq]
    by_cases hbn:b=[]
    ·subst hbn
     have hn0:n=0:=by simp only [cz] at hl2;exact (Option.some.inj hl2).symm
     subst hn0
     have hb0:(([]:List UInt8)==[])=true:=rfl
     simp only [go_sem,byq,if_pos,ln,eQ,hb0]
     exact Z13
    ·have hb0:(b==[])=false:=by simp [hbn]
     simp only [go_sem,byq,if_neg hbn,ln,hl2,zAV,hb0]
     exact Z0
  ·have hr:lit s=if s=[] then none else cz 10 0 s:=zC fun h=>by
    have:dw s [48,120]=false:=by unfold dw;simpa using h0
    rw [this] at h;exact absurd h.2 (by simp)
   try simp only [go_sem,dh,eQ,iNq,List.take_length,zau]
   refine ⟨by omega,?_⟩
   have hl':(s).length≤140737488355328:=by exact hl
   rw [hr]
   clear hr hl
   generalize s=b at *
   refine au (A:=Nat × Nat) (fun x=>[(0,.str b),(2,.ptr H.nx 0),(4,.int .i64 10),(5,.ptr (H.nx+1) 0),(6,.int .i64 (x.1:Int))])
    (fun x=>(H.push (.cells [.bool false,.slice .nil 1 []])).push (.cells [.bool (decide ((x.2:Int)<0)),.slice .any 1 (bK (bu ((x.2:Int)).natAbs))]))
    (fun x=>x.1≤b.length∧x.2<2^128∧cz 10 0 b=cz 10 x.2 (b.drop x.1)) (fun x=>b.length - x.1) (0,0) ⟨by omega,by decide,rfl⟩ ?_ fun x hI=>?_
   ·exact Z11
   obtain ⟨k,n⟩:=x
   obtain ⟨hk,hn,hl2⟩:=hI
   dsimp only at *
   simp only [go_sem,byq]
   refine ah (fun h2=>?_) (fun h2=>?_)
   ·have h2':k<b.length:=by simpa using h2
    rw [dcq h2'] at hl2
    have hg:AV.int .u8 ((b.getD k 0).toNat:Int)=ba b[k]:=by simp [gEq,h2',ba]
    have e5:=Yk5 k
    have hbn:b≠[]:=by intro h;subst h;simp at h2'
    simp only [cz] at hl2
    generalize b[k]=c at *
    have hc:dg c≤99:=by unfold dg;have:=UInt8.toNat_lt c;split<;>(try split)<;>omega
    simp only [go_sem,byq,hg,fN,dh,eQ]
    refine ⟨by omega,c,rfl,?_⟩
    simp only [go_sem,byq]
    refine ah (fun h3=>?_) (fun h3=>?_)
    ·have hd:¬ dg c<10:=by simp at h3;omega
     rw [if_neg hd] at hl2
     simp only [go_sem,byq,dh,eQ,hl2,if_neg hbn,ln]
     refine ⟨by omega,?_⟩
     exact Z0
    ·have hd:dg c<10:=by simp at h3;omega
     rw [if_pos hd] at hl2
     simp only [go_sem,byq,dh,eQ]
     refine ⟨by omega,?_⟩
     refine au (A:=Nat) (fun j=>[(0,.str b),(2,.ptr H.nx 0),(4,.int .i64 10),(5,.ptr (H.nx+1) 0),(6,.int .i64 (k:Int)),(7,.ptr (H.nx+1+1) 0),(8,.int .i64 (j:Int))])
      (fun j=>((H.push (.cells [.bool false,.slice .nil 1 []])).push (.cells [.bool (decide ((n:Int)<0)),.slice .any 1 (bK (bu ((n:Int)).natAbs))])).push (.cells [.bool (decide (((n*j:Nat):Int)<0)),.slice .any 1 (bK (bu (((n*j:Nat):Int)).natAbs))]))
      (fun j=>j≤10) (fun j=>10 - j) 0 (by omega) ?_ fun j hj=>?_
     ·exact Z12
     have hnj:n*j<2^133:=by
      have:n*j≤n*16:=Nat.mul_le_mul_left n (by omega)
      omega
     have hsj:cO ((n*j:Nat):Int):=cN 60 (by rw [Int.natAbs_natCast];omega) (by decide)
     have hsn:cO (n:Int):=cN 60 (by rw [Int.natAbs_natCast];omega) (by decide)
     simp only [go_sem,byq]
     refine ah (fun h4=>?_) (fun h4=>?_)
     ·have h4':j<10:=by simp at h4;omega
      have ej:IntKind.i64.wrap ((j:Int)+1)=((j+1:Nat):Int):=by rw [wrap_i64]<;>omega
      have en:((n*j:Nat):Int)+(n:Int)=((n*(j+1):Nat):Int):=by rw [Nat.mul_add];omega
      simp only [go_sem,byq,fc]
      refine ⟨((n*j:Nat):Int),(n:Int),⟨rfl,rfl,hsj,hsn⟩,?_⟩
      simp only [go_sem,byq,zAV,en,ej]
      refine ⟨j+1,by omega,by omega,?_⟩
      exact Z1
     ·have h4':j=10:=by simp at h4;omega
      subst h4'
      have en:((n*10:Nat):Int)+((dg c:Nat):Int)=((n*10+dg c:Nat):Int):=by omega
      have hsd:cO ((dg c:Nat):Int):=cN 10 (by rw [Int.natAbs_natCast];omega) (by decide)
      have hsf:cO ((n*10+dg c:Nat):Int):=cN 60 (by rw [Int.natAbs_natCast];omega) (by decide)
      obtain ⟨z,hz2⟩:∃ z:Int,z=((n*10+dg c:Nat):Int):=⟨_,rfl⟩
      rw [← hz2] at en hsf
      obtain ⟨y,hy⟩:∃ y:Int,y=((dg c:Nat):Int):=⟨_,rfl⟩
      simp only [go_sem,byq,fc,fN,dh,hg]
      refine ⟨by omega,c,rfl,?_⟩
      simp only [go_sem,byq,dh,fc]
      refine ⟨by omega,((n*10:Nat):Int),((dg c:Nat):Int),⟨rfl,rfl,hsj,hsd⟩,?_⟩
      refine gm (a:=n*10+dg c) (b:=2^128) (fun hf=>?_) (fun hf=>?_)
      ·rw [if_pos hf] at hl2
       have hft:decide (0≤z∧z<2^128)=true:=dtq (by omega)
       simp only [go_sem,byq,zAV,en,gQ]
       refine ⟨z,⟨rfl,hsf⟩,?_⟩
       simp only [go_sem,byq,zau,hft,e5]
       refine ⟨(k+1,n*10+dg c),⟨by omega,hf,hl2⟩,by omega,?_⟩
       exact Z10
      ·rw [if_neg (Nat.not_lt.2 hf)] at hl2
       have hft:decide (0≤z∧z<2^128)=false:=dfq (by omega)
       simp only [go_sem,byq,zAV,en,gQ]
       refine ⟨z,⟨rfl,hsf⟩,?_⟩
       simp only [go_sem,byq,zat,hft,dh,eQ,hl2,if_neg hbn,ln]
       refine ⟨by omega,?_⟩
       exact Z0
   ·have h2':k=b.length:=by simp at h2;omega
    subst h2'
    rw [List.drop_length] at hl2
    simp only [cz] at hl2
    simp only [go_sem,byq]
    by_cases hbn:b=[]
    ·subst hbn
     have hn0:n=0:=by simp only [cz] at hl2;exact (Option.some.inj hl2).symm
     subst hn0
     have hb0:(([]:List UInt8)==[])=true:=rfl
     simp only [go_sem,byq,if_pos,ln,eQ,hb0]
     exact Z13
    ·have hb0:(b==[])=false:=by simp [hbn]
     simp only [go_sem,byq,if_neg hbn,ln,hl2,zAV,hb0]
     exact Z0
 ·have hr:lit s=if s=[] then none else cz 10 0 s:=zC fun h=>by
   have:¬ 2<s.length:=by simp at h1;omega
   exact this h.1
  try simp only [go_sem,dh,eQ,iNq,List.take_length,zau]
  refine ⟨by omega,?_⟩
  have hl':(s).length≤140737488355328:=by exact hl
  rw [hr]
  clear hr hl
  generalize s=b at *
  refine au (A:=Nat × Nat) (fun x=>[(0,.str b),(2,.ptr H.nx 0),(4,.int .i64 10),(5,.ptr (H.nx+1) 0),(6,.int .i64 (x.1:Int))])
   (fun x=>(H.push (.cells [.bool false,.slice .nil 1 []])).push (.cells [.bool (decide ((x.2:Int)<0)),.slice .any 1 (bK (bu ((x.2:Int)).natAbs))]))
   (fun x=>x.1≤b.length∧x.2<2^128∧cz 10 0 b=cz 10 x.2 (b.drop x.1)) (fun x=>b.length - x.1) (0,0) ⟨by omega,by decide,rfl⟩ ?_ fun x hI=>?_
  ·exact Z11
  obtain ⟨k,n⟩:=x
  obtain ⟨hk,hn,hl2⟩:=hI
  dsimp only at *
  simp only [go_sem,byq]
  refine ah (fun h2=>?_) (fun h2=>?_)
  ·have h2':k<b.length:=by simpa using h2
   rw [dcq h2'] at hl2
   have hg:AV.int .u8 ((b.getD k 0).toNat:Int)=ba b[k]:=by simp [gEq,h2',ba]
   have e5:=Yk5 k
   have hbn:b≠[]:=by intro h;subst h;simp at h2'
   simp only [cz] at hl2
   generalize b[k]=c at *
   have hc:dg c≤99:=by unfold dg;have:=UInt8.toNat_lt c;split<;>(try split)<;>omega
   simp only [go_sem,byq,hg,fN,dh,eQ]
   refine ⟨by omega,c,rfl,?_⟩
   simp only [go_sem,byq]
   refine ah (fun h3=>?_) (fun h3=>?_)
   ·have hd:¬ dg c<10:=by simp at h3;omega
    rw [if_neg hd] at hl2
    simp only [go_sem,byq,dh,eQ,hl2,if_neg hbn,ln]
    refine ⟨by omega,?_⟩
    exact Z0
   ·have hd:dg c<10:=by simp at h3;omega
    rw [if_pos hd] at hl2
    simp only [go_sem,byq,dh,eQ]
    refine ⟨by omega,?_⟩
    refine au (A:=Nat) (fun j=>[(0,.str b),(2,.ptr H.nx 0),(4,.int .i64 10),(5,.ptr (H.nx+1) 0),(6,.int .i64 (k:Int)),(7,.ptr (H.nx+1+1) 0),(8,.int .i64 (j:Int))])
     (fun j=>((H.push (.cells [.bool false,.slice .nil 1 []])).push (.cells [.bool (decide ((n:Int)<0)),.slice .any 1 (bK (bu ((n:Int)).natAbs))])).push (.cells [.bool (decide (((n*j:Nat):Int)<0)),.slice .any 1 (bK (bu (((n*j:Nat):Int)).natAbs))]))
     (fun j=>j≤10) (fun j=>10 - j) 0 (by omega) ?_ fun j hj=>?_
    ·exact Z12
    have hnj:n*j<2^133:=by
     have:n*j≤n*16:=Nat.mul_le_mul_left n (by omega)
     omega
    have hsj:cO ((n*j:Nat):Int):=cN 60 (by rw [Int.natAbs_natCast];omega) (by decide)
    have hsn:cO (n:Int):=cN 60 (by rw [Int.natAbs_natCast];omega) (by decide)
    simp only [go_sem,byq]
    refine ah (fun h4=>?_) (fun h4=>?_)
    ·have h4':j<10:=by simp at h4;omega
     have ej:IntKind.i64.wrap ((j:Int)+1)=((j+1:Nat):Int):=by rw [wrap_i64]<;>omega
     have en:((n*j:Nat):Int)+(n:Int)=((n*(j+1):Nat):Int):=by rw [Nat.mul_add];omega
     simp only [go_sem,byq,fc]
     refine ⟨((n*j:Nat):Int),(n:Int),⟨rfl,rfl,hsj,hsn⟩,?_⟩
     simp only [go_sem,byq,zAV,en,ej]
     refine ⟨j+1,by omega,by omega,?_⟩
     exact Z1
    ·have h4':j=10:=by simp at h4;omega
     subst h4'
     have en:((n*10:Nat):Int)+((dg c:Nat):Int)=((n*10+dg c:Nat):Int):=by omega
     have hsd:cO ((dg c:Nat):Int):=cN 10 (by rw [Int.natAbs_natCast];omega) (by decide)
     have hsf:cO ((n*10+dg c:Nat):Int):=cN 60 (by rw [Int.natAbs_natCast];omega) (by decide)
     obtain ⟨z,hz2⟩:∃ z:Int,z=((n*10+dg c:Nat):Int):=⟨_,rfl⟩
     rw [← hz2] at en hsf
     obtain ⟨y,hy⟩:∃ y:Int,y=((dg c:Nat):Int):=⟨_,rfl⟩
     simp only [go_sem,byq,fc,fN,dh,hg]
     refine ⟨by omega,c,rfl,?_⟩
     simp only [go_sem,byq,dh,fc]
     refine ⟨by omega,((n*10:Nat):Int),((dg c:Nat):Int),⟨rfl,rfl,hsj,hsd⟩,?_⟩
     refine gm (a:=n*10+dg c) (b:=2^128) (fun hf=>?_) (fun hf=>?_)
     ·rw [if_pos hf] at hl2
      have hft:decide (0≤z∧z<2^128)=true:=dtq (by omega)
      simp only [go_sem,byq,zAV,en,gQ]
      refine ⟨z,⟨rfl,hsf⟩,?_⟩
      simp only [go_sem,byq,zau,hft,e5]
      refine ⟨(k+1,n*10+dg c),⟨by omega,hf,hl2⟩,by omega,?_⟩
      exact Z10
     ·rw [if_neg (Nat.not_lt.2 hf)] at hl2
      have hft:decide (0≤z∧z<2^128)=false:=dfq (by omega)
      simp only [go_sem,byq,zAV,en,gQ]
      refine ⟨z,⟨rfl,hsf⟩,?_⟩
      simp only [go_sem,byq,zat,hft,dh,eQ,hl2,if_neg hbn,ln]
      refine ⟨by omega,?_⟩
      exact Z0
  ·have h2':k=b.length:=by simp at h2;omega
   subst h2'
   rw [List.drop_length] at hl2
   simp only [cz] at hl2
   simp only [go_sem,byq]
   by_cases hbn:b=[]
   ·subst hbn
    have hn0:n=0:=by simp only [cz] at hl2;exact (Option.some.inj hl2).symm
    subst hn0
    have hb0:(([]:List UInt8)==[])=true:=rfl
    simp only [go_sem,byq,if_pos,ln,eQ,hb0]
    exact Z13
   ·have hb0:(b==[])=false:=by simp [hbn]
    simp only [go_sem,byq,if_neg hbn,ln,hl2,zAV,hb0]
    exact Z0
end Go.AL
open Go Go.AL Go.Proofs
namespace Go.AL
theorem AR:ti Tryz.prog 74=some ⟨.struct [(0,3,false),(1,9,false),(2,3,false)],3,32,.agg [.int .i64 0,.str [],.int .i64 0]⟩:=by kernel_rfl
theorem Bu:ti Tryz.prog 83=some ⟨.struct [(0,3,false),(1,9,false),(2,3,false)],3,32,.agg [.int .i64 0,.str [],.int .i64 0]⟩:=by kernel_rfl
theorem za:ti Tryz.prog 35=some ⟨.slice 74,1,24,.slice .nil 1 []⟩:=by kernel_rfl
theorem Ae:ti Tryz.prog 48=some ⟨.slice 83,1,24,.slice .nil 1 []⟩:=by kernel_rfl
theorem xf:ti Tryz.prog 36=some ⟨.int .i64,1,8,.int .i64 0⟩:=by kernel_rfl
attribute [go_sem] AR Bu za Ae xf
theorem hY {t:Bool} {A B:Prop} (e:t=true) (h:A):gO t A B:=aP (fun _=>h) (fun h=>by simp [e] at h)
theorem wG {t:Bool} {A B:Prop} (e:t=false) (h:B):gO t A B:=aP (fun h=>by simp [e] at h) (fun _=>h)
theorem rf {P:Program} {Ω:Tbl} {K:Conts} {t:Bool} {a b:Code} {fr:Fr} {H:AHeap} (e:t=false) (h:aw P Ω b K fr H):kW P Ω (.bool t) a b K fr H:=ah (fun h=>by simp [e] at h) (fun _=>h)
def sAV (l:List (List UInt8)):List AV:=l.map .str
theorem aj {l:List (List UInt8)}:(sAV l).length=l.length:=by simp [sAV]
theorem my {l:List (List UInt8)} {i:Nat} (h:i<l.length):(sAV l).getD i .junk=.str (l.getD i []):=by simp [sAV,gEq,h]
theorem eW {n sz:Nat} {l:List AV} (h:∀ x∈l,AV.lt n x):AV.lt n (.slice .any sz l):=by
 rw [AV.lt]
 exact ⟨fun id e=>(by cases e),fun j hj=>h _ (gMq hj)⟩
theorem cn {n:Nat} {l:List (List UInt8)}:AV.lt n (.slice .any 1 (sAV l)):=eW fun x hx=>by
 obtain ⟨s,_,rfl⟩:=List.mem_map.1 hx
 simp only [znh]
theorem zb:[AV.str [38,38],.str [124,124],.str [45,62],.str [61,61],.str [33,61],.str [60,61],.str [62,61],.str [58,58],.str [40],.str [41],.str [33],.str [60],.str [62],.str [43],.str [45]]=sAV syms:=rfl
theorem eG:syms.length=15:=rfl
def rX (t:Tok):AV:=.agg [.int .i64 (t.1:Int),.str t.2.1,.int .i64 (t.2.2:Int)]
def ce (l:List Tok):List AV:=l.map rX
theorem aB {l:List Tok}:(ce l).length=l.length:=by simp [ce]
theorem yG {l:List Tok} {x:List UInt8} {k:Nat}:ce l++[.agg [.int .i64 1,.str x,.int .i64 (k:Int)]]=ce (l++[(1,x,k)]):=by simp [ce,rX]
theorem ym {l:List Tok} {x:List UInt8} {k:Nat}:ce l++[.agg [.int .i64 2,.str x,.int .i64 (k:Int)]]=ce (l++[(2,x,k)]):=by simp [ce,rX]
theorem yL {l:List Tok} {x:List UInt8} {k:Nat}:ce l++[.agg [.int .i64 3,.str x,.int .i64 (k:Int)]]=ce (l++[(3,x,k)]):=by simp [ce,rX]
theorem mV {k1 k2:IntKind} {a c:Int} {b:List UInt8}:(∀ z,z∈[AV.agg [.int k1 a,.str b,.int k2 c]]→aY z.cells=true)=True:=eq_true fun z hz=>by
 rw [List.mem_singleton.1 hz]
 simp [ziq,zgq,zgr,zgs,zgu]
theorem db {H Hc:AHeap} {i:Nat} {o:AObj} (h:H.Le Hc) (hi:H.nx≤i):H.Le (Hc.set i o):=⟨h.nx,fun j x hj=>by
 have:=glq hj
 rw [AHeap.get_set_ne _ _ (by omega)]
 exact h.get j x hj⟩
theorem c7:ce []=[]:=rfl
theorem wm {n:Nat} {l:List Tok}:AV.lt n (.slice .any 3 (ce l)):=eW fun x hx=>by
 obtain ⟨s,_,rfl⟩:=List.mem_map.1 hx
 simp only [rX,znr,znu,znv,znf,znh,and_true]
theorem zA {n:Nat} {l:List Tok}:ltL n (ce l):=ltL_iff.2 fun j hj=>by
 simp only [ce,List.getElem_map,rX,znr,znu,znv,znf,znh,and_true]
theorem jw {n id:Nat} {l:List Tok} (h:id<n):AV.lt n (.slice (.own id) 3 (ce l)):=by
 rw [eP]
 exact ⟨fun i e=>by cases e;exact h,zA⟩
def lj (s:List UInt8):AV:=.tup [.slice .any 3 (ce (aT s).1),.int .i64 ((aT s).2.1:Int),.int .i64 ((aT s).2.2:Int)]
def gT:List AV→AHeap→(AV→Prop)→Prop
 |[.str s,.str p],_,K=>K (.bool (dw s p))
 |_,_,_=>False
theorem l5:EntOk Tryz.prog 29 (Ent.pure gT):=by
 refine Ype fun _ H K h=>?_
 unfold gT at h
 split at h
 rotate_left
 ·exact h.elim
 rename_i s p
 refine ⟨_,h,?_⟩
 clear h
 refine ACalls.fW aE (tCq kP tNq) Tryz.func29 [.tmp 4] (nrq _) (T:=ay []) (h:=fun hcl hlt=>?_)
 clear hlt
 simp only [go_sem,gg]
 exact Z0
def lw:List AV→AHeap→(AV→Prop)→Prop
 |[],_,K=>K (.slice .any 1 (sAV syms))
 |_,_,_=>False
theorem tH:EntOk Tryz.prog 51 (Ent.pure lw):=by
 refine Ype fun _ H K h=>?_
 unfold lw at h
 split at h
 rotate_left
 ·exact h.elim
 refine ⟨_,h,?_⟩
 clear h
 refine ACalls.fW aE tNq Tryz.func51 [.tmp 0] (nrq _) (T:=ay []) (h:=fun hcl hlt=>?_)
 clear hlt
 simp only [go_sem,zb]
 simp (disch:=first|exact Zd|omega) [↓zmo,beq,ybc,ybd,ybe,af,wk,wk2,wk1,wkM,wkL,am,ybf,hcl,cn]
theorem p8 {x:List UInt8} {l:List (List UInt8)} {s:List UInt8}:jh (x::l) s=if dw s x then x else jh l s:=by rw [jh]
def mU:List AV→AHeap→(AV→Prop)→Prop
 |[.str s],_,K=>K (.str (dN s))
 |_,_,_=>False
theorem v6:EntOk Tryz.prog 30 (Ent.pure mU):=by
 refine Ype fun _ H K h=>?_
 unfold mU at h
 split at h
 rotate_left
 ·exact h.elim
 rename_i s
 refine ⟨_,h,?_⟩
 clear h
 refine ACalls.fW aE (tCq tH (tCq l5 tNq)) Tryz.func30 [.tmp 2] (nrq _) (T:=ay []) (h:=fun hcl hlt=>?_)
 clear hlt
 simp only [go_sem,lw,aj]
 refine au (A:=Nat) (fun k=>[(0,.str s),(5,.slice .any 1 (sAV syms)),(6,.int .i64 15),(7,.int .i64 (k:Int))]) (fun k=>H) (fun k=>k≤15∧dN s=jh (syms.drop k) s) (fun k=>15 - k) 0 ⟨by omega,rfl⟩ ?_ fun k hk=>?_
 ·(simp only [bkq,enterW,aU,ltF,ne_eq,Nat.reduceEqDiff,reduceCtorEq,cn,eG];try simp (disch:=first|exact Zd|omega) [↓zmo,beq,ybc,ybd,ybe,af,wk,wk2,wk1,wkM,wkL,am,ybf,byq,biq,ae,hcl,cn,eG];try (repeat' (first|assumption|omega|exact True.intro|refine And.intro ?_ ?_|refine ag ?_|refine ac ?_|refine aa ?_ ?_|refine ai ?_ ?_|refine ak ?_|exact lRq _|refine lPq ?_ _|refine AHeap.Le.del ?_ ?_|(simp only [bt,and_true,true_and,cn,eG];first|done|omega|(simp;done)))))
 obtain ⟨hk,hs⟩:=hk
 simp only [go_sem]
 refine ah (fun h1=>?_) (fun h1=>?_)
 ·have hk2:k<15:=by simp at h1;omega
  have hk1:k<syms.length:=by rw [eG];exact hk2
  have hg:(sAV syms).getD k .junk=.str (syms.getD k []):=my hk1
  have e5:=Yk5 k
  have hgk:syms.getD k []=syms[k]:=by simp [gEq,hk1]
  rw [dcq hk1,p8] at hs
  rw [hgk] at hg
  generalize syms[k]=x at *
  simp only [go_sem,iNq,aj,eG,hg,gT,e5]
  refine ⟨by omega,ah (fun h2=>?_) (fun h2=>?_)⟩
  ·rw [if_pos h2] at hs
   simp only [go_sem,hs]
   exact Z0
  ·rw [if_neg (by simp [h2])] at hs
   simp only [go_sem,e5]
   refine ⟨k+1,⟨by omega,hs⟩,by omega,?_⟩
   exact Z14
 ·have hk1:k=15:=by simp at h1;omega
  subst hk1
  have h0:dN s=[]:=by rw [hs];rfl
  simp only [go_sem,h0]
  exact Z0
def kw:List AV→AHeap→(AV→Prop)→Prop
 |[x],_,K=>∃ c,x=ba c∧K (.bool (bF c))
 |_,_,_=>False
theorem oh:EntOk Tryz.prog 32 (Ent.pure kw):=by
 refine Ype fun _ H K h=>?_
 unfold kw at h
 split at h
 rotate_left
 ·exact h.elim
 obtain ⟨c,rfl,hK⟩:=h
 refine ⟨_,hK,?_⟩
 clear hK
 refine ACalls.fW aE tNq Tryz.func32 [.tmp 2] (nrq _) (T:=ay []) (h:=fun hcl hlt=>?_)
 clear hlt
 simp only [go_sem,ba]
 refine aP (fun h1=>?_) (fun h1=>?_)
 ·have e:bF c=decide ((c.toNat:Int)≤122):=by unfold bF;rw [Bool.eq_iff_iff];simp at h1 ⊢;omega
  simp only [go_sem,e]
  exact Z0
 ·have e:bF c=false:=by unfold bF;rw [Bool.eq_iff_iff];simp at h1 ⊢;omega
  simp only [go_sem,e]
  exact Z0
def rd:List AV→AHeap→(AV→Prop)→Prop
 |[x],_,K=>∃ c,x=ba c∧K (.bool (bG c))
 |_,_,_=>False
theorem Au:EntOk Tryz.prog 52 (Ent.pure rd):=by
 refine Ype fun _ H K h=>?_
 unfold rd at h
 split at h
 rotate_left
 ·exact h.elim
 obtain ⟨c,rfl,hK⟩:=h
 refine ⟨_,hK,?_⟩
 clear hK
 refine ACalls.fW aE (tCq oh tNq) Tryz.func52 [.tmp 2] (nrq _) (T:=ay []) (h:=fun hcl hlt=>?_)
 clear hlt
 simp only [go_sem,kw]
 refine ⟨c,rfl,?_⟩
 simp only [go_sem,ba]
 have e95:(((c.toNat:Nat):Int)==95)=(c==95):=by rw [Bool.eq_iff_iff];simp [← UInt8.toNat_inj];omega
 rw [e95]
 refine aP (fun h1=>?_) (fun h1=>?_)
 ·have e:bG c=true:=by unfold bG;rw [h1];rfl
  simp only [go_sem,e]
  exact Z0
 ·refine aP (fun h2=>?_) (fun h2=>?_)
  ·have h2':48≤c.toNat:=by simp at h2;omega
   refine aP (fun h3=>?_) (fun h3=>?_)
   ·have h3':c.toNat≤57:=by simp at h3;omega
    have e:bG c=true:=by unfold bG;rw [dtq h2',dtq h3'];simp
    simp only [go_sem,e]
    exact Z0
   ·have h3':¬ c.toNat≤57:=by simp at h3;omega
    have e:bG c=(c==95):=by unfold bG;rw [dfq h3',h1];simp
    simp only [go_sem,e]
    exact Z0
  ·have h2':¬ 48≤c.toNat:=by simp at h2;omega
   have e:bG c=(c==95):=by unfold bG;rw [dfq h2',h1];simp
   simp only [go_sem,e]
   exact Z0
theorem j5 {s:List UInt8} {k:Nat} (h:k<s.length):bP (s.drop k)=if bG (s.getD k 0) then s.getD k 0::bP (s.drop (k+1)) else []:=by
 have e:s.getD k 0=s[k]:=by simp [gEq,h]
 rw [e,dcq h]
 unfold bP
 by_cases hp:bG s[k]=true
 ·rw [if_pos hp,List.takeWhile_cons_of_pos hp]
 ·rw [if_neg hp,List.takeWhile_cons_of_neg hp]
theorem qw {s:List UInt8} {k:Nat} (h:k<s.length) (hp:bG (s.getD k 0)=true) (hw:bP s=s.take k++bP (s.drop k)):bP s=s.take (k+1)++bP (s.drop (k+1)):=by
 have e:s.getD k 0=s[k]:=by simp [gEq,h]
 rw [j5 h,if_pos hp,e] at hw
 rw [hw,List.take_succ_eq_append_getElem h,List.append_assoc];rfl
theorem nE {s:List UInt8} {k:Nat} (h:k<s.length) (hp:bG (s.getD k 0)=false) (hw:bP s=s.take k++bP (s.drop k)):bP s=s.take k:=by
 rw [j5 h,if_neg (by rw [hp];decide),yaj] at hw
 exact hw
theorem oQ {s:List UInt8} {k:Nat} (h:¬ k<s.length) (hw:bP s=s.take k++bP (s.drop k)):bP s=s.take k:=by
 rw [ybf (by omega)] at hw
 simpa [bP] using hw
def sv:List AV→AHeap→(AV→Prop)→Prop
 |[.str s],_,K=>s.length≤140737488355328∧K (.str (bP s))
 |_,_,_=>False
theorem zZ:EntOk Tryz.prog 31 (Ent.pure sv):=by
 refine Ype fun _ H K h=>?_
 unfold sv at h
 split at h
 rotate_left
 ·exact h.elim
 rename_i s
 obtain ⟨hsl,hK⟩:=h
 refine ⟨_,hK,?_⟩
 clear hK
 refine ACalls.fW aE (tCq Au tNq) Tryz.func31 [.tmp 2] (nrq _) (T:=ay []) (h:=fun hcl hlt=>?_)
 clear hlt
 simp only [go_sem]
 refine au (A:=Nat) (fun k=>[(0,.str s),(3,.int .i64 (k:Int))]) (fun k=>H) (fun k=>k≤s.length∧bP s=s.take k++bP (s.drop k)) (fun k=>s.length - k) 0 ⟨by omega,by simp⟩ ?_ fun k hk=>?_
 ·exact Z1
 obtain ⟨hk,hs⟩:=hk
 simp only [go_sem]
 refine aP (fun h1=>?_) (fun h1=>?_)
 ·have hk1:k<s.length:=by simp at h1;omega
  have e5:=Yk5 k
  simp only [go_sem,rd,iNq]
  refine ⟨by omega,s.getD k 0,rfl,?_⟩
  refine ah (fun h2=>?_) (fun h2=>?_)
  ·simp only [go_sem,e5]
   refine ⟨k+1,⟨by omega,qw hk1 h2 hs⟩,by omega,?_⟩
   exact Z1
  ·have hw:=nE hk1 h2 hs
   simp only [go_sem,iNq,hw]
   refine ⟨by omega,?_⟩
   exact Z0
 ·have hk1:¬ k<s.length:=by simp at h1;omega
  have hw:=oQ hk1 hs
  try simp only [go_sem,iNq,hw,zau]
  refine ⟨by omega,?_⟩
  exact Z0
def kx:List AV→AHeap→(AV→Prop)→Prop
 |[.str s],_,K=>s.length≤140737488355328∧K (lj s)
 |_,_,_=>False
theorem l4 {s:List UInt8} {k:Nat} {x:List UInt8} {kd:Nat} (h:k<s.length) (h3:fx (s.drop k)=some (kd,x)):x≠[]∧k+x.length≤s.length:=by
 obtain ⟨g1,g2,_⟩:=iJ h3
 rw [List.length_drop] at g2
 exact ⟨g1,by omega⟩
theorem qG {s:List UInt8} {l:List Tok} (h:¬ 400<s.length) (e:rest s 0=(l,none)):aT s=(l,0,0):=by unfold aT;rw [if_neg h,e]
theorem iw {s:List UInt8} {l:List Tok} {k:Nat} (h:¬ 400<s.length) (e:rest s 0=(l,some k)):aT s=([],k,10):=by unfold aT;rw [if_neg h,e]
theorem qv {s:List UInt8} (h:bP s=[]) (h2:dN s=[]):fx s=none:=by unfold fx;rw [h,h2]
theorem ug {s y:List UInt8} (h:bP s=[]) (h2:dN s=y) (hy:y≠[]):fx s=some (3,y):=by
 unfold fx;rw [h,h2];cases y with
 |nil=>exact absurd rfl hy
 |cons a b=>rfl
theorem s7 {s w:List UInt8} {c:UInt8} (h:bP s=c::w) (h2:bF c=true):fx s=some (2,c::w):=by unfold fx;rw [h];dsimp only;rw [if_pos h2]
theorem uh {s w:List UInt8} {c:UInt8} {n:Nat} (h:bP s=c::w) (h2:bF c=false) (h3:lit (c::w)=some n):fx s=some (1,c::w):=by
 unfold fx;rw [h];dsimp only;rw [if_neg (by rw [h2];decide),h3];rfl
theorem ov {s w:List UInt8} {c:UInt8} (h:bP s=c::w) (h2:bF c=false) (h3:lit (c::w)=none):fx s=none:=by
 unfold fx;rw [h];dsimp only;rw [if_neg (by rw [h2];decide),h3];rfl
theorem ky {s:List UInt8} {pre:List Tok} {k kd id:Nat} {x:List UInt8} {H Hd:AHeap} {fr:Fr} (hk:k<s.length) (hc:s[k]≠32) (ht:fx (s.drop k)=some (kd,x)) (hpl:pre.length≤k)
 (hr:rest s 0=(pre++(rest s k).1,(rest s k).2)) (hle:H.Le Hd) (hcd:Hd.Closed) (hid:H.nx≤id) (hg:Hd.get id=some (.buf 3 (pre.length+1)))
 (f0:Fr.get fr 0=.str s) (f5:Fr.get fr 5=.slice (.own id) 3 (ce (pre++[(kd,x,k)]))) (f6:Fr.get fr 6=.int .i64 ((k+x.length:Nat):Int)) :
 ∃ a':Nat × List Tok × Nat × AHeap,((a'.1≤s.length∧a'.2.1.length≤a'.1∧rest s 0=(a'.2.1++(rest s a'.1).1,(rest s a'.1).2))∧H.Le a'.2.2.2∧a'.2.2.2.Closed∧H.nx≤a'.2.2.1∧a'.2.2.2.get a'.2.2.1=some (.buf 3 a'.2.1.length)) ∧
  s.length - a'.1<s.length - k∧enterW H.nx fr Hd [(0,.str s),(5,.slice (.own a'.2.2.1) 3 (ce a'.2.1)),(6,.int .i64 (a'.1:Int))] a'.2.2.2:=by
 obtain ⟨hy1,hy2⟩:=l4 hk ht
 have hyl:0<x.length:=List.length_pos_iff.2 hy1
 have hid2:id<Hd.nx:=glq hg
 refine ⟨(k+x.length,pre++[(kd,x,k)],id,Hd),⟨⟨hy2,?_,?_⟩,hle,hcd,hid,?_⟩,?_,hle.nx,lRq _,hcd,?_,?_⟩
 ·simp;omega
 ·rw [hr,Ad hk hc ht,List.append_assoc];rfl
 ·rw [hg];simp
 ·dsimp only;omega
 ·simp only [ltF,znh,znf,true_and,and_true]
  exact jw hid2
 ·simp [aU,wk2,wk1,wkM,f0,f5,f6]
theorem qu {s:List UInt8} {k:Nat} (h:k<s.length):dw (s.drop k) [32]=(s[k]==32):=by
 unfold dw
 rw [dcq h]
 generalize s.drop (k+1)=r
 rw [Bool.eq_iff_iff,beq_iff_eq,beq_iff_eq]
 show [s[k]]=[32]↔_
 simp
theorem o9:EntOk Tryz.prog 12 (Ent.pure kx):=by
 refine Ype fun _ H K h=>?_
 unfold kx at h
 split at h
 rotate_left
 ·exact h.elim
 rename_i s
 obtain ⟨hsl,hK⟩:=h
 refine ⟨_,hK,?_⟩
 clear hK
 refine ACalls.fW aE (tCq l5 (tCq v6 (tCq zZ (tCq oh (tCq nv tNq))))) Tryz.func12 [.tmp 2,.tmp 3,.tmp 4] (nrq _) (T:=ay []) (h:=fun hcl hlt=>?_)
 clear hlt
 simp only [go_sem,lj]
 refine ah (fun h1=>?_) (fun h1=>?_)
 ·have h1':400<s.length:=by simp at h1;omega
  have e:aT s=([],0,3):=by unfold aT;rw [if_pos h1']
  simp only [go_sem,e,c7]
  exact Z15
 have h1':¬ 400<s.length:=by simp at h1;omega
 simp only [go_sem]
 refine au (A:=Nat × List Tok × Nat × AHeap) (fun a=>[(0,.str s),(5,.slice (.own a.2.2.1) 3 (ce a.2.1)),(6,.int .i64 (a.1:Int))]) (fun a=>a.2.2.2)
  (fun a=>(a.1≤s.length∧a.2.1.length≤a.1∧rest s 0=(a.2.1++(rest s a.1).1,(rest s a.1).2))∧H.Le a.2.2.2∧a.2.2.2.Closed∧H.nx≤a.2.2.1∧a.2.2.2.get a.2.2.1=some (.buf 3 a.2.1.length))
  (fun a=>s.length - a.1) (0,[],H.nx+1,(H.push (.buf 3 0)).push (.buf 3 0)) ⟨⟨by omega,by simp,by simp⟩,?_,?_,by simp,?_⟩ ?_ fun a ha=>?_
 ·exact Z0
 ·(repeat' (first|assumption|omega|exact True.intro|refine And.intro ?_ ?_|refine ag ?_|refine ac ?_|refine aa ?_ ?_|refine ai ?_ ?_|refine ak ?_|exact lRq _|refine lPq ?_ _|refine AHeap.Le.del ?_ ?_|(simp only [bt,and_true,true_and];first|done|omega|(simp;done))))
 ·exact AHeap.get_push_new _ _
 ·exact Z16
 obtain ⟨k,pre,id,Hc⟩:=a
 obtain ⟨⟨hk,hpl,hr⟩,hle,hcc,hid,hst⟩:=ha
 dsimp only at hk hpl hr hle hcc hid hst ⊢
 have hnx:H.nx≤Hc.nx:=hle.nx
 have hid2:id<Hc.nx:=glq hst
 simp only [go_sem]
 refine ah (fun h2=>?_) (fun h2=>?_)
 ·have hk1:k<s.length:=by simp at h2;omega
  have e5:=Yk5 k
  simp only [go_sem,gT,iNq,List.take_length]
  refine ⟨by omega,ah (fun h3=>?_) (fun h3=>?_)⟩
  ·have hc:s[k]=32:=by rw [qu hk1] at h3;simpa using h3
   rw [pk hk1 hc] at hr
   simp only [go_sem,e5]
   refine ⟨(k+1,pre,id,Hc),⟨⟨by dsimp only;omega,by dsimp only;omega,hr⟩,hle,hcc,hid,hst⟩,by dsimp only;omega,?_⟩
   (simp only [bkq,enterW,aU,ltF,ne_eq,Nat.reduceEqDiff,reduceCtorEq,hcc,hnx,hid2];try simp (disch:=first|exact Zd|omega) [↓zmo,beq,ybc,ybd,ybe,af,wk,wk2,wk1,wkM,wkL,am,ybf,byq,biq,ae,hcl,hcc,hnx,hid2];try (repeat' (first|assumption|omega|exact True.intro|refine And.intro ?_ ?_|refine ag ?_|refine ac ?_|refine aa ?_ ?_|refine ai ?_ ?_|refine ak ?_|exact lRq _|refine lPq ?_ _|refine AHeap.Le.del ?_ ?_|(simp only [bt,and_true,true_and,hcc,hnx,hid2];first|done|omega|(simp;done)))))
   exact jw hid2
  have n1:(id=Hc.nx)=False:=eq_false (by omega)
  have n2:(id=Hc.nx+1)=False:=eq_false (by omega)
  have n3:(id=Hc.nx+1+1)=False:=eq_false (by omega)
  have hc:s[k]≠32:=by rw [qu hk1] at h3;simpa using h3
  have hsd:(s.drop k).length≤400:=by rw [List.length_drop];omega
  simp only [go_sem,mU,sv]
  refine ⟨by omega,?_⟩
  cases hw:bP (s.drop k) with
  |nil =>
   have en:(([]:List UInt8) != [])=false:=rfl
   rcases Classical.em (dN (s.drop k)=[]) with hy|hy
   ·have htk:=qv hw hy
    rw [jO hk1 hc htk,yaj] at hr
    have hsc:=iw h1' hr
    have eb:(([]:List UInt8)==[])=true:=rfl
    simp only [go_sem,hsc,hy,en,eb,zau,zat,c7]
    simp (disch:=first|exact Zd|omega) [↓zmo,beq,ybc,ybd,ybe,af,wk,wk2,wk1,wkM,wkL,am,ybf,hcc,hle,hcl]
    exact (hle.push _).push _
   ·have htk:=ug hw rfl hy
    have eb:(dN (s.drop k)==[])=false:=by simpa using hy
    have eb0:(([]:List UInt8)==[])=true:=rfl
    obtain ⟨hy1,hy2⟩:=l4 hk1 htk
    generalize dN (s.drop k)=y at *
    have e6:IntKind.i64.wrap ((k:Int)+(y.length:Int))=((k+y.length:Nat):Int):=by rw [wrap_i64]<;>omega
    simp only [go_sem,en,eb,eb0,zau,zat,n1,n2,hst,aB,yL,e6,mV]
    refine ⟨by omega,ky hk1 hc htk hpl hr (((db hle hid).push _).push _) ?_ hid ?_ rfl rfl rfl⟩
    ·exact ag (aa (ac hcc) (by simp [znu,znv,znf,znh]))
    ·rw [gPq _ _ (by simp [AHeap.push,AHeap.set];omega),gPq _ _ (by simp [AHeap.set];omega),AHeap.get_set_same _ _ hid2]
  |cons c w =>
   have en:((c::w) != [])=true:=rfl
   have eb:((c::w)==[])=false:=rfl
   simp only [go_sem,en,eb,zat,kw]
   refine ⟨by omega,c,rfl,?_⟩
   cases hlc:bF c with
   |true =>
    have htk:=s7 hw hlc
    obtain ⟨_,hy2⟩:=l4 hk1 htk
    have e6:IntKind.i64.wrap ((k:Int)+((w.length+1:Nat):Int))=((k+(c::w).length:Nat):Int):=by
     rw [yaz] at hy2 ⊢
     rw [wrap_i64]<;>omega
    simp only [go_sem,en,eb,zau,zat,n1,n2,hst,aB,ym,e6,mV]
    refine ⟨by omega,ky hk1 hc htk hpl hr (((db hle hid).push _).push _) ?_ hid ?_ rfl rfl rfl⟩
    ·exact ag (aa (ac hcc) (by simp [znu,znv,znf,znh]))
    ·rw [gPq _ _ (by simp [AHeap.push,AHeap.set];omega),gPq _ _ (by simp [AHeap.set];omega),AHeap.get_set_same _ _ hid2]
   |false =>
    have hcw:(c::w).length≤400:=by rw [← hw];exact Nat.le_trans (List.takeWhile_sublist _).length_le hsd
    simp only [go_sem,en,eb,zau,zat,i7]
    cases hli:lit (c::w) with
    |none =>
     have htk:=ov hw hlc hli
     rw [jO hk1 hc htk,yaj] at hr
     have hsc:=iw h1' hr
     simp only [go_sem,hsc,nN,nAV,zau,zat,c7]
     refine ⟨by simp only [yaz] at hcw;omega,?_⟩
     simp (disch:=first|exact Zd|omega) [↓zmo,beq,ybc,ybd,ybe,af,wk,wk2,wk1,wkM,wkL,am,ybf,hcc,hle,hcl]
     exact ((hle.push _).push _).push _
    |some n =>
     have htk:=uh hw hlc hli
     obtain ⟨_,hy2⟩:=l4 hk1 htk
     have e6:IntKind.i64.wrap ((k:Int)+((w.length+1:Nat):Int))=((k+(c::w).length:Nat):Int):=by
      rw [yaz] at hy2 ⊢
      rw [wrap_i64]<;>omega
     simp only [go_sem,nN,nAV,zau,zat,n1,n2,n3,eb,hst,aB,yG,e6,mV]
     refine ⟨by simp only [yaz] at hcw;omega,by omega,ky hk1 hc htk hpl hr ((((db hle hid).push _).push _).push _) ?_ hid ?_ rfl rfl rfl⟩
     ·exact ag (aa (aa (ac hcc) (by simp [znu,znv,znf,znh])) (by simp [znu,znv,znf,znh]))
     ·rw [gPq _ _ (by simp [AHeap.push,AHeap.set];omega),gPq _ _ (by simp [AHeap.push,AHeap.set];omega),gPq _ _ (by simp [AHeap.set];omega),AHeap.get_set_same _ _ hid2]
 ·have hk1:s.length≤k:=by simp at h2;omega
  rw [tI hk1,yaj] at hr
  have hsc:=qG h1' hr
  simp only [go_sem,hsc]
  exact Z17
end Go.AL
open Go Go.AL Go.Proofs
namespace Go.AL
def ro:List AV→AHeap→(AV→Prop)→Prop
 |[x],_,K=>∃ c,x=ba c∧K (.bool (bG c))
 |_,_,_=>False
theorem yO:EntOk Tryz.prog 60 (Ent.pure ro):=by
 refine Ype fun _ H K h=>?_
 unfold ro at h
 split at h
 rotate_left
 ·exact h.elim
 obtain ⟨c,rfl,hK⟩:=h
 refine ⟨_,hK,?_⟩
 clear hK
 refine ACalls.fW aE tNq Tryz.func60 [.tmp 2] (nrq _) (T:=ay []) (h:=fun hcl hlt=>?_)
 clear hlt
 simp only [go_sem,ba]
 have e95:(((c.toNat:Nat):Int)==95)=(c==95):=by rw [Bool.eq_iff_iff];simp [← UInt8.toNat_inj];omega
 rw [e95]
 have fin:∀ {t:Bool},bG c=t→af H (AV.bool t) H (AV.bool (bG c)):=fun e=>by
  rw [e]
  exact Z0
 have tl:bF c=false→gO (decide ((c.toNat:Int) ≥ 48)) (gO (decide ((c.toNat:Int)≤57)) (af H (AV.bool true) H (AV.bool (bG c))) (af H (AV.bool (c==95)) H (AV.bool (bG c)))) (af H (AV.bool (c==95)) H (AV.bool (bG c))):=fun h1=>by
  refine aP (fun h2=>?_) (fun h2=>?_)
  ·have h2':48≤c.toNat:=by simp at h2;omega
   refine aP (fun h3=>?_) (fun h3=>?_)
   ·have h3':c.toNat≤57:=by simp at h3;omega
    exact fin (by unfold bG;rw [dtq h2',dtq h3'];simp)
   ·have h3':¬ c.toNat≤57:=by simp at h3;omega
    exact fin (by unfold bG;rw [dfq h3',h1];simp)
  ·have h2':¬ 48≤c.toNat:=by simp at h2;omega
   exact fin (by unfold bG;rw [dfq h2',h1];simp)
 refine aP (fun h1=>aP (fun h2=>?_) (fun h2=>tl ?_)) (fun h1=>tl ?_)
 ·exact fin (by unfold bG bF;simp at h1 h2;rw [dtq (by omega),dtq (by omega)];simp)
 ·unfold bF;simp at h2;rw [dfq (p:=c.toNat≤122) (by omega)];simp
 ·unfold bF;simp at h1;rw [dfq (p:=97≤c.toNat) (by omega)];simp
def rz:List AV→AHeap→(AV→Prop)→Prop
 |[.str s],_,K=>s.length≤140737488355328∧K (.int .i64 ((bP s).length:Int))
 |_,_,_=>False
theorem zn:EntOk Tryz.prog 38 (Ent.pure rz):=by
 refine Ype fun _ H K h=>?_
 unfold rz at h
 split at h
 rotate_left
 ·exact h.elim
 rename_i s
 obtain ⟨hsl,hK⟩:=h
 refine ⟨_,hK,?_⟩
 clear hK
 refine ACalls.fW aE (tCq yO tNq) Tryz.func38 [.tmp 2] (nrq _) (T:=ay []) (h:=fun hcl hlt=>?_)
 clear hlt
 simp only [go_sem]
 refine au (A:=Nat) (fun k=>[(0,.str s),(3,.int .i64 (k:Int))]) (fun k=>H) (fun k=>k≤s.length∧bP s=s.take k++bP (s.drop k)) (fun k=>s.length - k) 0 ⟨by omega,by simp⟩ ?_ fun k hk=>?_
 ·exact Z1
 obtain ⟨hk,hs⟩:=hk
 have hmin:(s.take k).length=k:=by rw [List.length_take];omega
 simp only [go_sem]
 refine aP (fun h1=>?_) (fun h1=>?_)
 ·have hk1:k<s.length:=by simp at h1;omega
  have e5:=Yk5 k
  simp only [go_sem,ro,iNq]
  refine ⟨by omega,s.getD k 0,rfl,?_⟩
  refine ah (fun h2=>?_) (fun h2=>?_)
  ·simp only [go_sem,e5]
   refine ⟨k+1,⟨by omega,qw hk1 h2 hs⟩,by omega,?_⟩
   exact Z1
  ·have hw:=nE hk1 h2 hs
   simp only [go_sem,iNq,hw,hmin]
   exact Z0
 ·have hk1:¬ k<s.length:=by simp at h1;omega
  have hw:=oQ hk1 hs
  try simp only [go_sem,iNq,hw,hmin,zau]
  exact Z0
theorem lm {s p:List UInt8}:dw s p=(decide (p.length≤s.length)&&(s.take p.length==p)):=by
 unfold dw
 rw [Bool.eq_iff_iff]
 simp
 intro h
 have:=congrArg List.length h
 rw [List.length_take] at this
 omega
def mQ:List AV→AHeap→(AV→Prop)→Prop
 |[.str s],_,K=>K (.int .i64 ((dN s).length:Int))
 |_,_,_=>False
theorem vS:EntOk Tryz.prog 37 (Ent.pure mQ):=by
 refine Ype fun _ H K h=>?_
 unfold mQ at h
 split at h
 rotate_left
 ·exact h.elim
 rename_i s
 refine ⟨_,h,?_⟩
 clear h
 refine ACalls.fW aE tNq Tryz.func37 [.tmp 2] (nrq _) (T:=ay []) (h:=fun hcl hlt=>?_)
 clear hlt
 simp only [go_sem,zb,aj]
 refine au (A:=Nat) (fun k=>[(0,.str s),(5,.slice .any 1 (sAV syms)),(6,.int .i64 15),(7,.int .i64 (k:Int))]) (fun k=>H) (fun k=>k≤15∧dN s=jh (syms.drop k) s) (fun k=>15 - k) 0 ⟨by omega,rfl⟩ ?_ fun k hk=>?_
 ·(simp only [bkq,enterW,aU,ltF,ne_eq,Nat.reduceEqDiff,reduceCtorEq,cn,eG];try simp (disch:=first|exact Zd|omega) [↓zmo,beq,ybc,ybd,ybe,af,wk,wk2,wk1,wkM,wkL,am,ybf,byq,biq,ae,hcl,cn,eG];try (repeat' (first|assumption|omega|exact True.intro|refine And.intro ?_ ?_|refine ag ?_|refine ac ?_|refine aa ?_ ?_|refine ai ?_ ?_|refine ak ?_|exact lRq _|refine lPq ?_ _|refine AHeap.Le.del ?_ ?_|(simp only [bt,and_true,true_and,cn,eG];first|done|omega|(simp;done)))))
  trace_state
 obtain ⟨hk,hs⟩:=hk
 simp only [go_sem]
 refine ah (fun h1=>?_) (fun h1=>?_)
 ·have hk2:k<15:=by simp at h1;omega
  have hk1:k<syms.length:=by rw [eG];exact hk2
  have hg:(sAV syms).getD k .junk=.str (syms.getD k []):=my hk1
  have e5:=Yk5 k
  have hgk:syms.getD k []=syms[k]:=by simp [gEq,hk1]
  rw [dcq hk1,p8] at hs
  rw [hgk] at hg
  generalize syms[k]=x at *
  simp only [go_sem,iNq,aj,eG,hg,e5]
  refine ⟨by omega,?_⟩
  refine aP (fun h2=>?_) (fun h2=>?_)
  ·have h2':x.length≤s.length:=by simp at h2;omega
   refine ⟨by omega,ah (fun h3=>?_) (fun h3=>?_)⟩
   ·rw [if_pos (by rw [lm,dtq h2'];simpa using h3)] at hs
    simp only [go_sem,hs]
    exact Z0
   ·rw [if_neg (by rw [lm,dtq h2'];simpa using h3)] at hs
    simp only [go_sem,e5]
    refine ⟨k+1,⟨by omega,hs⟩,by omega,?_⟩
    exact Z14
  ·have h2':¬ x.length≤s.length:=by simp at h2;omega
   rw [if_neg (by rw [lm,dfq h2'];simp)] at hs
   try simp only [go_sem,e5,zau]
   refine ⟨k+1,⟨by omega,hs⟩,by omega,?_⟩
   exact Z14
 ·have hk1:k=15:=by simp at h1;omega
  subst hk1
  have h0:dN s=[]:=by rw [hs];rfl
  simp only [go_sem,h0]
  exact Z0
def sA:List AV→AHeap→(AV→Prop)→Prop
 |[.str s],_,K=>s.length≤140737488355328∧K (lj s)
 |_,_,_=>False
theorem pN {s:List UInt8} {k kd:Nat} {x:List UInt8} (h:fx (s.drop k)=some (kd,x)):(s.take (k+x.length)).drop k=x:=by
 rw [List.drop_take,Nat.add_sub_cancel_left]
 exact (iJ h).2.2
theorem CF {w:List UInt8}:lit (95::w)=none:=by
 unfold lit
 rw [if_neg (by simp [dw]),if_neg (by simp)]
 rfl
theorem xt {s w:List UInt8} {c:UInt8} {k:Nat} (h:k<s.length) (hw:bP (s.drop k)=c::w):s[k]=c∧bG c=true:=by
 have e:s.getD k 0=s[k]:=by simp [gEq,h]
 rw [j5 h] at hw
 split at hw
 ·rename_i hp
  rw [e] at hw hp
  injection hw with h1 h2
  subst h1
  exact ⟨rfl,hp⟩
 ·cases hw
theorem yy:EntOk Tryz.prog 18 (Ent.pure sA):=by
 refine Ype fun _ H K h=>?_
 unfold sA at h
 split at h
 rotate_left
 ·exact h.elim
 rename_i s
 obtain ⟨hsl,hK⟩:=h
 refine ⟨_,hK,?_⟩
 clear hK
 refine ACalls.fW aE (tCq vS (tCq zn (tCq sW tNq))) Tryz.func18 [.tmp 2,.tmp 3,.tmp 4] (nrq _) (T:=ay []) (h:=fun hcl hlt=>?_)
 clear hlt
 simp only [go_sem,lj]
 refine ah (fun h1=>?_) (fun h1=>?_)
 ·have h1':400<s.length:=by simp at h1;omega
  have e:aT s=([],0,3):=by unfold aT;rw [if_pos h1']
  simp only [go_sem,e,c7]
  exact Z15
 have h1':¬ 400<s.length:=by simp at h1;omega
 simp only [go_sem]
 refine au (A:=Nat × List Tok × Nat × AHeap) (fun a=>[(0,.str s),(5,.slice (.own a.2.2.1) 3 (ce a.2.1)),(6,.int .i64 (a.1:Int))]) (fun a=>a.2.2.2)
  (fun a=>(a.1≤s.length∧a.2.1.length≤a.1∧rest s 0=(a.2.1++(rest s a.1).1,(rest s a.1).2))∧H.Le a.2.2.2∧a.2.2.2.Closed∧H.nx≤a.2.2.1∧a.2.2.2.get a.2.2.1=some (.buf 3 a.2.1.length))
  (fun a=>s.length - a.1) (0,[],H.nx+1,(H.push (.buf 3 0)).push (.buf 3 0)) ⟨⟨by omega,by simp,by simp⟩,?_,?_,by simp,?_⟩ ?_ fun a ha=>?_
 ·exact Z0
 ·(repeat' (first|assumption|omega|exact True.intro|refine And.intro ?_ ?_|refine ag ?_|refine ac ?_|refine aa ?_ ?_|refine ai ?_ ?_|refine ak ?_|exact lRq _|refine lPq ?_ _|refine AHeap.Le.del ?_ ?_|(simp only [bt,and_true,true_and];first|done|omega|(simp;done))))
 ·exact AHeap.get_push_new _ _
 ·exact Z16
 obtain ⟨k,pre,id,Hc⟩:=a
 obtain ⟨⟨hk,hpl,hr⟩,hle,hcc,hid,hst⟩:=ha
 dsimp only at hk hpl hr hle hcc hid hst ⊢
 have hnx:H.nx≤Hc.nx:=hle.nx
 have hid2:id<Hc.nx:=glq hst
 simp only [go_sem]
 refine ah (fun h2=>?_) (fun h2=>?_)
 ·have hk1:k<s.length:=by simp at h2;omega
  have e5:=Yk5 k
  have hsg:s.getD k 0=s[k]:=by simp [gEq,hk1]
  simp only [go_sem,iNq,List.take_length,hsg]
  refine ⟨by omega,ah (fun h3=>?_) (fun h3=>?_)⟩
  ·have hc:s[k]=32:=by simp at h3;rw [← UInt8.toNat_inj];simp;omega
   rw [pk hk1 hc] at hr
   simp only [go_sem,e5]
   refine ⟨(k+1,pre,id,Hc),⟨⟨by dsimp only;omega,by dsimp only;omega,hr⟩,hle,hcc,hid,hst⟩,by dsimp only;omega,?_⟩
   (simp only [bkq,enterW,aU,ltF,ne_eq,Nat.reduceEqDiff,reduceCtorEq,hcc,hnx,hid2];try simp (disch:=first|exact Zd|omega) [↓zmo,beq,ybc,ybd,ybe,af,wk,wk2,wk1,wkM,wkL,am,ybf,byq,biq,ae,hcl,hcc,hnx,hid2];try (repeat' (first|assumption|omega|exact True.intro|refine And.intro ?_ ?_|refine ag ?_|refine ac ?_|refine aa ?_ ?_|refine ai ?_ ?_|refine ak ?_|exact lRq _|refine lPq ?_ _|refine AHeap.Le.del ?_ ?_|(simp only [bt,and_true,true_and,hcc,hnx,hid2];first|done|omega|(simp;done)))))
   exact jw hid2
  have n1:(id=Hc.nx)=False:=eq_false (by omega)
  have n2:(id=Hc.nx+1)=False:=eq_false (by omega)
  have n3:(id=Hc.nx+1+1)=False:=eq_false (by omega)
  have hc:s[k]≠32:=fun e=>by rw [e] at h3;simp at h3
  have hsd:(s.drop k).length≤400:=by rw [List.length_drop];omega
  simp only [go_sem,mQ,rz,List.take_length,iNq]
  refine ⟨by omega,by omega,by omega,?_⟩
  cases hw:bP (s.drop k) with
  |nil =>
   refine ah (fun h4=>by simp at h4) (fun _=>?_)
   simp only [go_sem]
   refine ah (fun h5=>?_) (fun h5=>?_)
   ·have hy:dN (s.drop k)=[]:=by simp at h5;exact h5
    have htk:=qv hw hy
    rw [jO hk1 hc htk,yaj] at hr
    have hsc:=iw h1' hr
    simp only [go_sem,hsc,hy,c7]
    simp (disch:=first|exact Zd|omega) [↓zmo,beq,ybc,ybd,ybe,af,wk,wk2,wk1,wkM,wkL,am,ybf,hcc,hle,hcl]
    exact (hle.push _).push _
   ·have hy:dN (s.drop k)≠[]:=by intro e;rw [e] at h5;simp at h5
    have htk:=ug hw rfl hy
    obtain ⟨hy1,hy2⟩:=l4 hk1 htk
    have hx:=pN htk
    generalize dN (s.drop k)=y at *
    have e6:IntKind.i64.wrap ((k:Int)+(y.length:Int))=((k+y.length:Nat):Int):=by rw [wrap_i64]<;>omega
    simp only [go_sem,iNq,n1,n2,hst,hx,aB,yL,e6,mV]
    refine ⟨by omega,by omega,ky hk1 hc htk hpl hr (((db hle hid).push _).push _) ?_ hid ?_ rfl rfl rfl⟩
    ·exact ag (aa (ac hcc) (by simp [znu,znv,znf,znh]))
    ·rw [gPq _ _ (by simp [AHeap.push,AHeap.set];omega),gPq _ _ (by simp [AHeap.set];omega),AHeap.get_set_same _ _ hid2]
  |cons c w =>
   obtain ⟨hsc0,hpt⟩:=xt hk1 hw
   have hcw:(c::w).length≤400:=by rw [← hw];exact Nat.le_trans (List.takeWhile_sublist _).length_le hsd
   have hx:(s.take (k+(w.length+1))).drop k=c::w:=by
    rw [show w.length+1=(c::w).length from rfl,List.drop_take,Nat.add_sub_cancel_left,← hw];exact gz _
   have hy2:k+(c::w).length≤s.length:=by
    have:=(List.takeWhile_sublist (p:=bG) (l:=s.drop k)).length_le
    rw [show (s.drop k).takeWhile bG=c::w from hw,List.length_drop] at this
    simp only [yaz] at this ⊢;omega
   have e6:IntKind.i64.wrap ((k:Int)+((w.length+1:Nat):Int))=((k+(c::w).length:Nat):Int):=by
    rw [yaz] at hy2 ⊢
    rw [wrap_i64]<;>omega
   refine ah (fun _=>?_) (fun h4=>by simp at h4)
   simp only [go_sem,iNq,hsg,hsc0]
   refine ⟨by omega,ah (fun h5=>?_) (fun h5=>?_)⟩
   ·have hc95:c=95:=by simp at h5;rw [← UInt8.toNat_inj];simp;omega
    subst hc95
    have htk:=ov hw (by decide) CF
    rw [jO hk1 hc htk,yaj] at hr
    have hsc:=iw h1' hr
    simp only [go_sem,hsc,c7]
    simp (disch:=first|exact Zd|omega) [↓zmo,beq,ybc,ybd,ybe,af,wk,wk2,wk1,wkM,wkL,am,ybf,hcc,hle,hcl]
    exact (hle.push _).push _
   have hc95:c≠95:=fun e=>by rw [e] at h5;simp at h5
   simp only [go_sem,iNq,hsg,hsc0]
   refine ⟨by omega,ah (fun h6=>?_) (fun h6=>?_)⟩
   ·have hlc:bF c=false:=by unfold bF;simp at h6;rw [dfq (p:=97≤c.toNat) (by omega)];simp
    simp only [go_sem,iNq,kY,e6,hx]
    cases hli:lit (c::w) with
    |none =>
     have htk:=ov hw hlc hli
     rw [jO hk1 hc htk,yaj] at hr
     have hsc:=iw h1' hr
     simp only [go_sem,hsc,ln,zAV,zau,zat,c7]
     refine ⟨by simp only [yaz] at hy2;omega,by simp only [yaz] at hcw;omega,?_⟩
     simp (disch:=first|exact Zd|omega) [↓zmo,beq,ybc,ybd,ybe,af,wk,wk2,wk1,wkM,wkL,am,ybf,hcc,hle,hcl]
     exact ((hle.push _).push _).push _
    |some n =>
     have htk:=uh hw hlc hli
     simp only [go_sem,ln,zAV,zau,zat]
     refine ⟨by simp only [yaz] at hy2;omega,by simp only [yaz] at hcw;omega,ah (fun h7=>by simp at h7;omega) (fun _=>?_)⟩
     simp only [go_sem,iNq,n1,n2,n3,hst,hx,aB,yG,e6,mV]
     refine ⟨by simp only [yaz] at hy2;omega,by omega,ky hk1 hc htk hpl hr ((((db hle hid).push _).push _).push _) ?_ hid ?_ rfl rfl rfl⟩
     ·exact ag (aa (aa (ac hcc) (by simp [znu,znv,znf,znh])) (by simp [znu,znv,zng,zmm]))
     ·rw [gPq _ _ (by simp [AHeap.push,AHeap.set];omega),gPq _ _ (by simp [AHeap.push,AHeap.set];omega),gPq _ _ (by simp [AHeap.set];omega),AHeap.get_set_same _ _ hid2]
   ·have hlc:bF c=true:=by
     unfold bG at hpt
     simp at h6
     rw [dfq (p:=c.toNat≤57) (by omega),beq_eq_false_iff_ne.2 hc95] at hpt
     simpa using hpt
    have htk:=s7 hw hlc
    simp only [go_sem,iNq]
    refine ah (fun h7=>by simp at h7;omega) (fun _=>?_)
    simp only [go_sem,iNq,n1,n2,hst,hx,aB,ym,e6,mV]
    refine ⟨by simp only [yaz] at hy2;omega,by omega,ky hk1 hc htk hpl hr (((db hle hid).push _).push _) ?_ hid ?_ rfl rfl rfl⟩
    ·exact ag (aa (ac hcc) (by simp [znu,znv,znf,znh]))
    ·rw [gPq _ _ (by simp [AHeap.push,AHeap.set];omega),gPq _ _ (by simp [AHeap.set];omega),AHeap.get_set_same _ _ hid2]
 ·have hk1:s.length≤k:=by simp at h2;omega
  rw [tI hk1,yaj] at hr
  have hsc:=qG h1' hr
  simp only [go_sem,hsc]
  exact Z17
end Go.AL
open Go Go.AL Go.Proofs
namespace Go.AL
theorem zk:ti Tryz.prog 45=some ⟨.struct [(0,22,false),(1,3,false)],2,32,.agg [.slice .nil 1 [],.int .i64 0]⟩:=by kernel_rfl
attribute [go_sem] zk
theorem tT {H:AHeap} {i:Nat} {o:AObj} (h:H.get i=some o):(H.set i o).Le H:=⟨nrq _,fun j x hj=>by
 rcases AHeap.get_set_inv _ _ hj with ⟨rfl,rfl,_⟩|⟨_,h2⟩
 ·exact h
 ·exact h2⟩
def sB:List AV→AHeap→(AV→Prop)→Prop
 |[.ptr id 0],H,K=>∃ b a,(H.get id=some (.cells [.slice .any 1 (bys b),.int .i64 a]))∧K (.bool (decide (a<(b.length:Int))))
 |_,_,_=>False
theorem Av:EntOk Tryz.prog 36 (Ent.pure sB):=by
 refine Ype fun _ H K h=>?_
 unfold sB at h
 split at h
 rotate_left
 ·exact h.elim
 rename_i id
 obtain ⟨b,a,hg,hK⟩:=h
 refine ⟨_,hK,?_⟩
 clear hK
 refine ACalls.fW aE tNq Tryz.func36 [.tmp 2] (nrq _) (T:=ay []) (h:=fun hcl hlt=>?_)
 clear hlt
 have hcs:=bg hg
 simp only [go_sem,hcs,zlk]
 exact Z0
def cod (b:List UInt8) (a:Int):AObj:=.cells [.slice .any 1 (bys b),.int .i64 a]
def cd:List AV→AHeap→(AV→AHeap→Prop)→Prop
 |[.ptr id 0,.int .i64 n],H,K=>∃ b a,(H.get id=some (cod b a)∧(0≤a∧a≤(b.length:Int))∧b.length≤140737488355328∧1≤n∧n≤1000000) ∧
   ∀ r a',0≤r→r<n→0≤a'→a'≤(b.length:Int)→K (.int .i64 r) (H.set id (cod b a'))
 |_,_,_=>False
theorem l6:EntOk Tryz.prog 16 (Ent.some cd):=by
 refine EntOk.some fun args H K h=>?_
 unfold cd at h
 split at h
 rotate_left
 ·exact h.elim
 rename_i id n
 obtain ⟨b,a,⟨hg,⟨ha1,ha2⟩,hb,hn1,hn2⟩,hK⟩:=h
 refine ACallsP.fS aE (tCq Av tNq) Tryz.func16 [.tmp 4] (T:=ay [(4,[[],[],[],[],[],[],[],[],[],[],[],[3,7,10]])]) (h:=fun hcl=>?_)
 have hcs:=bg hg
 have hid:=glq hg
 simp only [go_sem,sB]
 refine ⟨b,a,hg,?_⟩
 have hcl2:∀ a',(H.set id (cod b a')).Closed:=fun a'=>ai hcl (by simp [znu,znv,znf,zms])
 refine aP (fun h1=>?_) (fun h1=>ah (fun h2=>by simp at h2;omega) (fun h2=>?_))
 ·refine ⟨_,_,hK 0 a (by omega) (by omega) ha1 ha2,nrq _,?_⟩
  simp (disch:=first|exact Zd|omega) [↓zmo,beq,ybc,ybd,ybe,af,wk,wk2,wk1,wkM,wkL,am,ybf,hcl2]
  exact tT hg
 have h1':a<(b.length:Int):=by simp at h1;omega
 obtain ⟨k,rfl⟩:=Int.eq_ofNat_of_zero_le ha1
 have hk:k<b.length:=by omega
 have e1:IntKind.i64.wrap ((k:Int)+1)=((k+1:Nat):Int):=by rw [wrap_i64]<;>omega
 have e2:IntKind.i64.wrap (((k+1:Nat):Int) - 1)=(k:Int):=by rw [wrap_i64]<;>omega
 have hgd:(bys b).getD k .junk=ba b[k]:=by rw [rJ hk];simp [gEq,hk]
 have h8:=UInt8.toNat_lt b[k]
 have e3:IntKind.i64.wrap ((b[k].toNat:Nat):Int)=((b[k].toNat:Nat):Int):=by rw [wrap_i64]<;>omega
 simp only [go_sem,hcs,e1,cH hid,e2,iNq,hgd,zlk,ba,e3]
 have ht:(((b[k].toNat:Nat):Int)).tmod n=((b[k].toNat:Nat):Int) % n:=Int.tmod_eq_emod_of_nonneg (by omega)
 have ht1:=Int.emod_nonneg ((b[k].toNat:Nat):Int) (show n≠0 by omega)
 have ht2:=Int.emod_lt_of_pos ((b[k].toNat:Nat):Int) (show 0<n by omega)
 rw [ht]
 refine ⟨by omega,by omega,_,_,hK _ ((k+1:Nat):Int) ht1 ht2 (by omega) (by omega),nrq _,?_⟩
 simp (disch:=first|exact Zd|omega) [↓zmo,beq,ybc,ybd,ybe,af,wk,wk2,wk1,wkM,wkL,am,ybf,hcl2,cod]
def v7:List AV→AHeap→(AEnd→AHeap→Prop)→Prop
 |[.slice m 1 l,.int .i64 n],H,K=>∃ b,(l=bys b∧0≤n)∧K (.ret (.ptr H.nx 0)) (H.push (cod (b.take (min (b.length:Int) n).toNat) 0))
 |_,_,_=>False
theorem AC:EntOk Tryz.prog 4 (Ent.effect v7):=by
 refine EntOk.effect fun args H K h=>?_
 unfold v7 at h
 split at h
 rotate_left
 ·exact h.elim
 rename_i m l n
 obtain ⟨b,⟨rfl,hn⟩,hK⟩:=h
 refine ⟨_,_,hK,?_⟩
 clear hK
 refine ACalls.fW aE tNq Tryz.func4 [.tmp 4] (Nat.le_succ _) (T:=ay []) (h:=fun hcl hlt=>?_)
 clear hlt
 simp only [go_sem,zlk,yap,zlm]
 refine ⟨by omega,?_⟩
 simp (disch:=first|exact Zd|omega) [↓zmo,beq,ybc,ybd,ybe,af,wk,wk2,wk1,wkM,wkL,am,ybf,hcl,cod]
 (repeat' (first|assumption|omega|exact True.intro|refine And.intro ?_ ?_|refine ag ?_|refine ac ?_|refine aa ?_ ?_|refine ai ?_ ?_|refine ak ?_|exact lRq _|refine lPq ?_ _|refine AHeap.Le.del ?_ ?_|(simp only [bt,and_true,true_and,zms];first|done|omega|(simp;done))))
theorem mod_lt {x n:Int} (hn:1≤n):0≤(x.tmod n+n).tmod n∧(x.tmod n+n).tmod n<n:=by
 have h1:=Int.lt_tmod_of_pos x (show 0<n by omega)
 rw [Int.tmod_eq_emod_of_nonneg (by omega)]
 exact ⟨Int.emod_nonneg _ (by omega),Int.emod_lt_of_pos _ (by omega)⟩
theorem zd {l:List Tok} {k:Nat} (h:k<l.length):(ce l).getD k .junk=rX l[k]:=by simp [ce,gEq,h]
end Go.AL
