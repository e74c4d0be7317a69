/- Lemmas of the proof; no condition. -/
import Derived.Test.YtokjjhidigoodaaGreatN05d
set_option linter.all false
set_option maxRecDepth 10000
set_option maxHeartbeats 32000000
open List renaming length_cons → yaz, take_succ_cons → yaq, drop_eq_nil_of_le → ybf, length_nil → yba, take_of_length_le → ybc, drop_append → ybd, take_append → ybe, append_nil → yaj
open Go Go.AL
namespace Go.AL
def dU (c:UInt8):Bool:=decide (97≤c.toNat)&&decide (c.toNat≤122)
def dT (c:UInt8):Bool:=dU c||(decide (48≤c.toNat)&&decide (c.toNat≤57))||c==95
def syms:List (List UInt8):=[[38,38],[124,124],[45,62],[61,61],[33,61],[60,61],[62,61],[58,58],[40],[41],[33],[60],[62],[43],[45]]
def wJ (l:List (List UInt8)) (s:List UInt8):List UInt8:=match l with
 |[]=>[]
 |x::l=>if jz s x then x else wJ l s
def k9 (s:List UInt8):List UInt8:=wJ syms s
def dD (s:List UInt8):List UInt8:=s.takeWhile dT
abbrev Tok:=Nat × List UInt8 × Nat
def mU (s:List UInt8):Option (Nat × List UInt8) :=
 match dD s with
 |[]=>match k9 s with
  |[]=>none
  |x=>some (3,x)
 |c::w=>if dU c then some (2,c::w) else if (lit (c::w)).isSome then some (1,c::w) else none
def kG:Nat→List UInt8→Nat→List Tok × Option Nat
 |0,_,_=>([],none)
 |_+1,[],_=>([],none)
 |f+1,c::r,k=>if c=32 then kG f r (k+1) else match mU (c::r) with
  |none=>([],some k)
  |some (kd,x)=>((kd,x,k)::(kG f ((c::r).drop x.length) (k+x.length)).1,(kG f ((c::r).drop x.length) (k+x.length)).2)
theorem Ev {s:List UInt8}:∀ {l:List (List UInt8)},(∀ x∈l,x≠[])→wJ l s≠[]→wJ l s∈l∧jz s (wJ l s)=true
 |[],_,h=>absurd rfl h
 |x::l,hl,h=>by
  unfold wJ at h ⊢
  by_cases hx:jz s x=true
  ·rw [if_pos hx];exact ⟨List.mem_cons_self,hx⟩
  ·rw [if_neg hx] at h ⊢
   obtain ⟨h1,h2⟩:=Ev (fun y hy=>hl y (List.mem_cons_of_mem _ hy)) h
   exact ⟨List.mem_cons_of_mem _ h1,h2⟩
theorem Lu:∀ x∈syms,x≠[]:=by decide
theorem w5 {s p:List UInt8} (h:jz s p=true):p.length≤s.length∧s.take p.length=p:=by
 have h2:=eq_of_beq h
 have:=congrArg List.length h2
 rw [List.length_take] at this
 exact ⟨by omega,h2⟩
theorem lj {p:UInt8→Bool}:∀ (s:List UInt8),s.take (s.takeWhile p).length=s.takeWhile p
 |[]=>rfl
 |c::s=>by
  by_cases h:p c=true
  ·rw [List.takeWhile_cons_of_pos h,yaz,yaq,lj s]
  ·rw [List.takeWhile_cons_of_neg h];rfl
theorem mQ {s:List UInt8} {kd:Nat} {x:List UInt8} (h:mU s=some (kd,x)):x≠[]∧x.length≤s.length∧s.take x.length=x:=by
 unfold mU at h
 split at h
 ·split at h
  ·cases h
  ·rename_i y hy
   injection h with h
   injection h with h1 h2
   subst h2
   obtain ⟨_,h4⟩:=Ev Lu (s:=s) hy
   exact ⟨hy,w5 h4⟩
 ·rename_i c w hw
  have hx:x=c::w:=by
   split at h
   ·injection h with h;injection h with h1 h2;exact h2.symm
   ·split at h
    ·injection h with h;injection h with h1 h2;exact h2.symm
    ·cases h
  subst hx
  refine ⟨by simp,?_,?_⟩
  ·rw [← hw];exact (List.takeWhile_sublist _).length_le
  ·rw [← hw];exact lj s
theorem nO:∀ (f g:Nat) (s:List UInt8) (k:Nat),s.length≤f→s.length≤g→kG f s k=kG g s k
 |0,0,_,_,_,_=>rfl
 |0,g+1,s,k,h,_=>by
  have:s=[]:=List.eq_nil_of_length_eq_zero (by omega)
  subst this;rfl
 |f+1,0,s,k,_,h=>by
  have:s=[]:=List.eq_nil_of_length_eq_zero (by omega)
  subst this;rfl
 |f+1,g+1,[],k,_,_=>rfl
 |f+1,g+1,c::r,k,h1,h2=>by
  simp only [yaz] at h1 h2
  unfold kG
  split
  ·exact nO f g r (k+1) (by omega) (by omega)
  ·split
   ·rfl
   ·rename_i kd x hx
    obtain ⟨h3,h4,_⟩:=mQ hx
    have h5:0<x.length:=List.length_pos_iff.2 h3
    have e:=nO f g ((c::r).drop x.length) (k+x.length) (by rw [List.length_drop,yaz];omega) (by rw [List.length_drop,yaz];omega)
    rw [e]
def rest (s:List UInt8) (k:Nat):List Tok × Option Nat:=kG s.length (s.drop k) k
theorem Ch {s:List UInt8} {k:Nat} (h:s.length≤k):rest s k=([],none):=by
 unfold rest
 rw [ybf h]
 cases s.length<;>rfl
theorem vg {s:List UInt8} {k:Nat} (h:k<s.length) (h2:s[k]=32):rest s k=rest s (k+1):=by
 unfold rest
 obtain ⟨f,hf⟩:∃ f,s.length=f+1:=⟨s.length - 1,by omega⟩
 rw [dcq h,h2]
 rw [hf]
 show kG (f+1) (32::s.drop (k+1)) k=_
 rw [kG,if_pos rfl]
 exact Y164
theorem n5 {s:List UInt8} {k:Nat} (h:k<s.length) (h2:s[k]≠32) (h3:mU (s.drop k)=none):rest s k=([],some k):=by
 unfold rest
 obtain ⟨f,hf⟩:∃ f,s.length=f+1:=⟨s.length - 1,by omega⟩
 rw [dcq h] at h3 ⊢
 rw [hf]
 rw [kG,if_neg h2,h3]
theorem JJ {s:List UInt8} {k kd:Nat} {x:List UInt8} (h:k<s.length) (h2:s[k]≠32) (h3:mU (s.drop k)=some (kd,x)) :
 rest s k=((kd,x,k)::(rest s (k+x.length)).1,(rest s (k+x.length)).2):=by
 obtain ⟨g1,g2,_⟩:=mQ h3
 have g3:0<x.length:=List.length_pos_iff.2 g1
 rw [List.length_drop] at g2
 unfold rest
 obtain ⟨f,hf⟩:∃ f,s.length=f+1:=⟨s.length - 1,by omega⟩
 have e:kG f ((s.drop k).drop x.length) (k+x.length)=kG s.length (s.drop (k+x.length)) (k+x.length):=by
  rw [List.drop_drop]
  exact Y164
 rw [← e,hf]
 rw [dcq h] at h3 ⊢
 rw [kG,if_neg h2,h3]
def ct (s:List UInt8):List Tok × Nat × Nat:=if 400<s.length then ([],0,3) else match rest s 0 with
 |(l,none)=>(l,0,0)
 |(_,some k)=>([],k,10)
end Go.AL
open Go Go.AL Go.Proofs
namespace Go.AL
def kv:List AV→AHeap→(AV→Prop)→Prop
 |[x],_,K=>∃ c,x=bZ c∧K (.int .i64 (dg c:Nat))
 |_,_,_=>False
theorem Hk:EntOk Tryz.prog 466 (Ent.pure kv):=by
 refine Ype fun _ H K h=>?_
 unfold kv at h
 split at h
 rotate_left
 ·exact h.elim
 obtain ⟨c,rfl,hK⟩:=h
 refine ⟨_,hK,?_⟩
 clear hK
 refine Yfv ax tNq Tryz.func466 [.tmp 2] fun hcl hlt=>?_
 clear hlt
 have hc:c.toNat<256:=UInt8.toNat_lt c
 have w8:∀ x,IntKind.u8.wrap x=x % 256:=fun x=>by simp [IntKind.wrap,IntKind.signed,IntKind.bits]
 simp only [go_sem,bZ]
 refine bx (fun h1=>?_) (fun h1=>?_)
 ·refine au (fun h2=>?_) (fun h2=>?_)
  ·have hd:dg c=c.toNat - 48:=by unfold dg;rw [if_pos (by simp at h1 h2;omega)]
   have e:IntKind.i64.wrap (IntKind.u8.wrap ((c.toNat:Int) - 48))=(dg c:Nat):=by
    rw [w8,hd];simp at h1 h2;rw [wrap_i64]<;>omega
   exact Y81
  ·simp only [go_sem]
   refine bx (fun h3=>?_) (fun h3=>?_)
   ·refine au (fun h4=>?_) (fun h4=>?_)
    ·have hd:dg c=c.toNat - 87:=by unfold dg;simp at h1 h2 h3 h4;rw [if_neg (by omega),if_pos (by omega)]
     have e:IntKind.i64.wrap (IntKind.i64.wrap (IntKind.u8.wrap ((c.toNat:Int) - 97))+10)=(dg c:Nat):=by
      rw [w8,hd];simp at h1 h2 h3 h4
      have e1:IntKind.i64.wrap (((c.toNat:Int) - 97) % 256)=(c.toNat:Int) - 97:=by rw [wrap_i64]<;>omega
      rw [e1,wrap_i64]<;>omega
     exact Y81
    ·have hd:dg c=99:=by unfold dg;simp at h1 h2 h3 h4;rw [if_neg (by omega),if_neg (by omega)]
     simp only [go_sem,hd]
     exact Z0
   ·have hd:dg c=99:=by unfold dg;simp at h1 h2 h3;rw [if_neg (by omega),if_neg (by omega)]
    try simp only [go_sem,zau,hd]
    exact Z0
 ·try simp only [go_sem,zau]
  refine bx (fun h3=>?_) (fun h3=>?_)
  ·refine au (fun h4=>?_) (fun h4=>?_)
   ·simp at h1 h3;omega
   ·have hd:dg c=99:=by unfold dg;simp at h1 h3 h4;rw [if_neg (by omega),if_neg (by omega)]
    simp only [go_sem,hd]
    exact Z0
  ·have hd:dg c=99:=by unfold dg;simp at h1 h3;rw [if_neg (by omega),if_neg (by omega)]
   try simp only [go_sem,zau,hd]
   exact Z0
def rm (o:Option Nat):AV:=match o with
 |some n=>.tup [zAV n,.bool true]
 |none=>.tup [zAV 0,.bool false]
theorem J9 {s:List UInt8} (h:¬ (2<s.length∧jz s [48,120]=true)):lit s=if s=[] then none else fB 10 0 s:=by
 unfold lit
 by_cases hp:jz s [48,120]=true
 ·rw [if_pos hp]
  have hl:s.length=2:=by
   have:=congrArg List.length (eq_of_beq hp)
   rw [List.length_take] at this
   simp at this
   have:¬ 2<s.length:=fun h2=>h ⟨h2,hp⟩
   omega
  have hs:s=[48,120]:=by
   have:=eq_of_beq hp
   rwa [ybc (by simp;omega)] at this
  subst hs
  decide +kernel
 ·rw [if_neg hp]
def rf:List AV→AHeap→(AV→Prop)→Prop
 |[.str s],_,K=>(s.length≤140737488355328)∧K (rm (lit s))
 |_,_,_=>False
theorem Cu:EntOk Tryz.prog 410 (Ent.pure rf):=by
 refine Ype fun _ H K h=>?_
 unfold rf at h
 split at h
 rotate_left
 ·exact h.elim
 rename_i s
 obtain ⟨hl,hK⟩:=h
 refine ⟨_,hK,?_⟩
 refine ACalls.fW ax (tCq Dk (tCq Hk (tCq uX (tCq Jj tNq)))) Tryz.func410 [.cell 2 454,.tmp 3] (nrq _) (T:=av [(15,[[],[],[],[],[],[4],[0,4,5],[0,4,5,6]])]) (h:=fun hcl hlt=>?_)
 clear hlt hK
 simp only [go_sem,fX,ja]
 refine bx (fun h1=>?_) (fun h1=>?_)
 ·have hl2:2<s.length:=by simp at h1;omega
  refine ⟨by omega,au (fun h0=>?_) (fun h0=>?_)⟩
  ·have hp:jz s [48,120]=true:=by unfold jz;simpa using h0
   have hr:lit s=if s.drop 2=[] then none else fB 16 0 (s.drop 2):=by unfold lit;rw [if_pos hp]
   try simp only [go_sem,fX,ja,iNq,List.take_length]
   refine ⟨by omega,by omega,?_⟩
   have hl':(s.drop 2).length≤140737488355328:=by rw [List.length_drop];omega
   rw [hr]
   clear hr hl
   generalize s.drop 2=b at *
   refine az (A:=Nat × Nat) (fun x=>[(0,.str b),(2,.ptr H.nx 0),(4,.int .i64 16),(5,.ptr (H.nx+1) 0),(6,.int .i64 (x.1:Int))])
    (fun x=>(H.push (.cells [.bool false,.slice .nil 1 []])).push (.cells [.bool (decide ((x.2:Int)<0)),.slice .any 1 (cO (cG ((x.2:Int)).natAbs))]))
    (fun x=>x.1≤b.length∧x.2<2^128∧fB 16 0 b=fB 16 x.2 (b.drop x.1)) (fun x=>b.length - x.1) (0,0) ⟨by omega,by decide,rfl⟩ ?_ fun x hI=>?_
   ·exact Z12
   obtain ⟨k,n⟩:=x
   obtain ⟨hk,hn,hl2⟩:=hI
   dsimp only at *
   simp only [go_sem,byq]
   refine au (fun h2=>?_) (fun h2=>?_)
   ·have h2':k<b.length:=by simpa using h2
    rw [dcq h2'] at hl2
    have hg:AV.int .u8 ((b.getD k 0).toNat:Int)=bZ b[k]:=by simp [gEq,h2',bZ]
    have e5:=Yk5 k
    have hbn:b≠[]:=by intro h;subst h;simp at h2'
    simp only [fB] at hl2
    generalize b[k]=c at *
    have hc:dg c≤99:=by unfold dg;have:=UInt8.toNat_lt c;split<;>(try split)<;>omega
    simp only [go_sem,byq,hg,kv,fX,ja]
    refine ⟨by omega,c,rfl,?_⟩
    simp only [go_sem,byq]
    refine au (fun h3=>?_) (fun h3=>?_)
    ·have hd:¬ dg c<16:=by simp at h3;omega
     rw [if_neg hd] at hl2
     simp only [go_sem,byq,fX,ja,hl2,if_neg hbn,rm]
     exact Y34
    ·have hd:dg c<16:=by simp at h3;omega
     rw [if_pos hd] at hl2
     simp only [go_sem,byq,fX,ja]
     refine ⟨by omega,?_⟩
     refine az (A:=Nat) (fun j=>[(0,.str b),(2,.ptr H.nx 0),(4,.int .i64 16),(5,.ptr (H.nx+1) 0),(6,.int .i64 (k:Int)),(7,.ptr (H.nx+1+1) 0),(8,.int .i64 (j:Int))])
      (fun j=>((H.push (.cells [.bool false,.slice .nil 1 []])).push (.cells [.bool (decide ((n:Int)<0)),.slice .any 1 (cO (cG ((n:Int)).natAbs))])).push (.cells [.bool (decide (((n*j:Nat):Int)<0)),.slice .any 1 (cO (cG (((n*j:Nat):Int)).natAbs))]))
      (fun j=>j≤16) (fun j=>16 - j) 0 (by omega) ?_ fun j hj=>?_
     ·exact Z13
     have hnj:n*j<2^133:=by
      have:n*j≤n*16:=Nat.mul_le_mul_left n (by omega)
      omega
     have hsj:fe ((n*j:Nat):Int):=fc 60 (by rw [Int.natAbs_natCast];omega) (by decide)
     have hsn:fe (n:Int):=fc 60 (by rw [Int.natAbs_natCast];omega) (by decide)
     simp only [go_sem,byq]
     refine au (fun h4=>?_) (fun h4=>?_)
     ·have h4':j<16:=by simp at h4;omega
      have ej:IntKind.i64.wrap ((j:Int)+1)=((j+1:Nat):Int):=by rw [wrap_i64]<;>omega
      have en:((n*j:Nat):Int)+(n:Int)=((n*(j+1):Nat):Int):=by rw [Nat.mul_add];omega
      simp only [go_sem,byq,jr]
      refine ⟨((n*j:Nat):Int),(n:Int),⟨rfl,rfl,hsj,hsn⟩,?_⟩
      simp only [go_sem,byq,zAV,en,ej]
      refine ⟨j+1,by omega,by omega,?_⟩
      exact Z1
     ·have h4':j=16:=by simp at h4;omega
      subst h4'
      have en:((n*16:Nat):Int)+((dg c:Nat):Int)=((n*16+dg c:Nat):Int):=by omega
      have hsd:fe ((dg c:Nat):Int):=fc 10 (by rw [Int.natAbs_natCast];omega) (by decide)
      have hsf:fe ((n*16+dg c:Nat):Int):=fc 60 (by rw [Int.natAbs_natCast];omega) (by decide)
      obtain ⟨z,hz2⟩:∃ z:Int,z=((n*16+dg c:Nat):Int):=⟨_,rfl⟩
      rw [← hz2] at en hsf
      obtain ⟨y,hy⟩:∃ y:Int,y=((dg c:Nat):Int):=⟨_,rfl⟩
      simp only [go_sem,byq,jr,kv,fX,hg]
      refine ⟨by omega,c,rfl,?_⟩
      simp only [go_sem,byq,fX,jr]
      refine ⟨by omega,((n*16:Nat):Int),((dg c:Nat):Int),⟨rfl,rfl,hsj,hsd⟩,?_⟩
      refine lw (a:=n*16+dg c) (b:=2^128) (fun hf=>?_) (fun hf=>?_)
      ·rw [if_pos hf] at hl2
       have hft:decide (0≤z∧z<2^128)=true:=dtq (by omega)
       simp only [go_sem,byq,zAV,en,lW]
       refine ⟨z,⟨rfl,hsf⟩,?_⟩
       simp only [go_sem,byq,zau,hft,e5]
       exact Y173
      ·rw [if_neg (Nat.not_lt.2 hf)] at hl2
       have hft:decide (0≤z∧z<2^128)=false:=dfq (by omega)
       simp only [go_sem,byq,zAV,en,lW]
       refine ⟨z,⟨rfl,hsf⟩,?_⟩
       simp only [go_sem,byq,zat,hft,fX,ja,hl2,if_neg hbn,rm]
       exact Y34
   ·have h2':k=b.length:=by simp at h2;omega
    subst h2'
    rw [List.drop_length] at hl2
    simp only [fB] at hl2
    simp only [go_sem,byq]
    by_cases hbn:b=[]
    ·subst hbn
     have hn0:n=0:=by simp only [fB] at hl2;exact (Option.some.inj hl2).symm
     subst hn0
     have hb0:(([]:List UInt8)==[])=true:=rfl
     simp only [go_sem,byq,if_pos,rm,ja,hb0]
     exact Z14
    ·have hb0:(b==[])=false:=by simp [hbn]
     simp only [go_sem,byq,if_neg hbn,rm,hl2,zAV,hb0]
     exact Z0
  ·have hr:lit s=if s=[] then none else fB 10 0 s:=J9 fun h=>by
    have:jz s [48,120]=false:=by unfold jz;simpa using h0
    rw [this] at h;exact absurd h.2 (by simp)
   exact Y0
 ·have hr:lit s=if s=[] then none else fB 10 0 s:=J9 fun h=>by
   have:¬ 2<s.length:=by simp at h1;omega
   exact this h.1
  exact Y0
end Go.AL
open Go Go.AL Go.Proofs
namespace Go.AL
theorem L0:ti Tryz.prog 339=some ⟨.struct [(0,3,false),(1,9,false),(2,3,false)],3,32,.agg [.int .i64 0,.str [],.int .i64 0]⟩:=by kernel_rfl
theorem Lb:ti Tryz.prog 451=some ⟨.struct [(0,3,false),(1,9,false),(2,3,false)],3,32,.agg [.int .i64 0,.str [],.int .i64 0]⟩:=by kernel_rfl
theorem Jb:ti Tryz.prog 181=some ⟨.slice 339,1,24,.slice .nil 1 []⟩:=by kernel_rfl
theorem Kv:ti Tryz.prog 357=some ⟨.slice 451,1,24,.slice .nil 1 []⟩:=by kernel_rfl
theorem Gr:ti Tryz.prog 52=some ⟨.int .i64,1,8,.int .i64 0⟩:=by kernel_rfl
attribute [go_sem] L0 Lb Jb Kv Gr
theorem ED {t:Bool} {A B:Prop} (e:t=false) (h:B):mB t A B:=bx (fun h=>by simp [e] at h) (fun _=>h)
theorem Am {P:Program} {Ω:Tbl} {K:Conts} {t:Bool} {a b:Code} {fr:Fr} {H:AHeap} (e:t=false) (h:aw P Ω b K fr H):qp P Ω (.bool t) a b K fr H:=au (fun h=>by simp [e] at h) (fun _=>h)
def sAV (l:List (List UInt8)):List AV:=l.map .str
theorem jP {l:List (List UInt8)}:(sAV l).length=l.length:=by simp [sAV]
theorem zn {l:List (List UInt8)} {i:Nat} (h:i<l.length):(sAV l).getD i .junk=.str (l.getD i []):=by simp [sAV,gEq,h]
theorem jf {n sz:Nat} {l:List AV} (h:∀ x∈l,AV.lt n x):AV.lt n (.slice .any sz l):=by
 exact Y163
theorem cY {n:Nat} {l:List (List UInt8)}:AV.lt n (.slice .any 1 (sAV l)):=jf fun x hx=>by
 obtain ⟨s,_,rfl⟩:=List.mem_map.1 hx
 simp only [znd]
theorem JR:[AV.str [38,38],.str [124,124],.str [45,62],.str [61,61],.str [33,61],.str [60,61],.str [62,61],.str [58,58],.str [40],.str [41],.str [33],.str [60],.str [62],.str [43],.str [45]]=sAV syms:=rfl
theorem iA:syms.length=15:=rfl
def zE (t:Tok):AV:=.agg [.int .i64 (t.1:Int),.str t.2.1,.int .i64 (t.2.2:Int)]
def dr (l:List Tok):List AV:=l.map zE
theorem aT {l:List Tok}:(dr l).length=l.length:=by simp [dr]
theorem KW {l:List Tok} {x:List UInt8} {k:Nat}:dr l++[.agg [.int .i64 1,.str x,.int .i64 (k:Int)]]=dr (l++[(1,x,k)]):=by simp [dr,zE]
theorem I9 {l:List Tok} {x:List UInt8} {k:Nat}:dr l++[.agg [.int .i64 2,.str x,.int .i64 (k:Int)]]=dr (l++[(2,x,k)]):=by simp [dr,zE]
theorem KF {l:List Tok} {x:List UInt8} {k:Nat}:dr l++[.agg [.int .i64 3,.str x,.int .i64 (k:Int)]]=dr (l++[(3,x,k)]):=by simp [dr,zE]
theorem tM {k1 k2:IntKind} {a c:Int} {b:List UInt8}:(∀ z,z∈[AV.agg [.int k1 a,.str b,.int k2 c]]→bM z.cells=true)=True:=eq_true fun z hz=>by
 rw [List.mem_singleton.1 hz]
 simp [zim,zgm,zgn,zgo,zgq]
theorem bF {H Hc:AHeap} {i:Nat} {o:AObj} (h:H.Le Hc) (hi:H.nx≤i):H.Le (Hc.set i o):=⟨h.nx,fun j x hj=>by
 have:=glq hj
 rw [AHeap.get_set_ne _ _ (by omega)]
 exact h.get j x hj⟩
theorem fS:dr []=[]:=rfl
theorem EV {n:Nat} {l:List Tok}:AV.lt n (.slice .any 3 (dr l)):=jf fun x hx=>by
 obtain ⟨s,_,rfl⟩:=List.mem_map.1 hx
 simp only [zE,znn,znq,znr,znb,znd,and_true]
theorem Kx {n:Nat} {l:List Tok}:ltL n (dr l):=ltL_iff.2 fun j hj=>by
 simp only [dr,List.getElem_map,zE,znn,znq,znr,znb,znd,and_true]
theorem od {n id:Nat} {l:List Tok} (h:id<n):AV.lt n (.slice (.own id) 3 (dr l)):=by
 rw [aS]
 exact ⟨fun i e=>by cases e;exact h,Kx⟩
def pk (s:List UInt8):AV:=.tup [.slice .any 3 (dr (ct s).1),.int .i64 ((ct s).2.1:Int),.int .i64 ((ct s).2.2:Int)]
def lT:List AV→AHeap→(AV→Prop)→Prop
 |[.str s,.str p],_,K=>K (.bool (jz s p))
 |_,_,_=>False
theorem si:EntOk Tryz.prog 278 (Ent.pure lT):=by
 refine Ype fun _ H K h=>?_
 unfold lT at h
 split at h
 rotate_left
 ·exact h.elim
 rename_i s p
 refine ⟨_,h,?_⟩
 clear h
 refine Yfv ax (tCq qt tNq) Tryz.func278 [.tmp 4] fun hcl hlt=>?_
 clear hlt
 simp only [go_sem,kJ]
 exact Z0
def qU:List AV→AHeap→(AV→Prop)→Prop
 |[],_,K=>K (.slice .any 1 (sAV syms))
 |_,_,_=>False
theorem Bh:EntOk Tryz.prog 391 (Ent.pure qU):=by
 refine Ype fun _ H K h=>?_
 unfold qU at h
 split at h
 rotate_left
 ·exact h.elim
 refine ⟨_,h,?_⟩
 clear h
 refine Yfv ax tNq Tryz.func391 [.tmp 0] fun hcl hlt=>?_
 clear hlt
 simp only [go_sem,JR]
 simp (disch:=first|exact Zd|omega) [↓zmk,beq,ybc,ybd,ybe,af,wk,wk2,wk1,wkM,wkL,aj,ybf,hcl,cY]
theorem y6 {x:List UInt8} {l:List (List UInt8)} {s:List UInt8}:wJ (x::l) s=if jz s x then x else wJ l s:=by rw [wJ]
def sR:List AV→AHeap→(AV→Prop)→Prop
 |[.str s],_,K=>K (.str (k9 s))
 |_,_,_=>False
theorem Dh:EntOk Tryz.prog 279 (Ent.pure sR):=by
 refine Ype fun _ H K h=>?_
 unfold sR at h
 split at h
 rotate_left
 ·exact h.elim
 rename_i s
 refine ⟨_,h,?_⟩
 clear h
 refine Yfv ax (tCq Bh (tCq si tNq)) Tryz.func279 [.tmp 2] fun hcl hlt=>?_
 clear hlt
 simp only [go_sem,qU,jP]
 refine az (A:=Nat) (fun k=>[(0,.str s),(5,.slice .any 1 (sAV syms)),(6,.int .i64 15),(7,.int .i64 (k:Int))]) (fun k=>H) (fun k=>k≤15∧k9 s=wJ (syms.drop k) s) (fun k=>15 - k) 0 ⟨by omega,rfl⟩ ?_ fun k hk=>?_
 ·(simp only [bkq,enterW,aK,ltF,ne_eq,Nat.reduceEqDiff,reduceCtorEq,cY,iA];try simp (disch:=first|exact Zd|omega) [↓zmk,beq,ybc,ybd,ybe,af,wk,wk2,wk1,wkM,wkL,aj,ybf,byq,biq,ah,hcl,cY,iA];try (repeat' (first|assumption|omega|exact True.intro|refine And.intro ?_ ?_|refine ag ?_|refine aa ?_|refine ae ?_ ?_|refine ai ?_ ?_|refine aq ?_|exact lRq _|refine lPq ?_ _|refine AHeap.Le.del ?_ ?_|(simp only [bt,and_true,true_and,cY,iA];first|done|omega|(simp;done)))))
 obtain ⟨hk,hs⟩:=hk
 simp only [go_sem]
 refine au (fun h1=>?_) (fun h1=>?_)
 ·have hk2:k<15:=by simp at h1;omega
  have hk1:k<syms.length:=by rw [iA];exact hk2
  have hg:(sAV syms).getD k .junk=.str (syms.getD k []):=zn hk1
  have e5:=Yk5 k
  have hgk:syms.getD k []=syms[k]:=by simp [gEq,hk1]
  rw [dcq hk1,y6] at hs
  rw [hgk] at hg
  generalize syms[k]=x at *
  simp only [go_sem,iNq,jP,iA,hg,lT,e5]
  refine ⟨by omega,au (fun h2=>?_) (fun h2=>?_)⟩
  ·rw [if_pos h2] at hs
   simp only [go_sem,hs]
   exact Z0
  ·rw [if_neg (by simp [h2])] at hs
   simp only [go_sem,e5]
   exact Y139
 ·exact Y134
def pD:List AV→AHeap→(AV→Prop)→Prop
 |[x],_,K=>∃ c,x=bZ c∧K (.bool (dU c))
 |_,_,_=>False
theorem vf:EntOk Tryz.prog 281 (Ent.pure pD):=by
 refine Ype fun _ H K h=>?_
 unfold pD at h
 split at h
 rotate_left
 ·exact h.elim
 obtain ⟨c,rfl,hK⟩:=h
 refine ⟨_,hK,?_⟩
 clear hK
 refine Yfv ax tNq Tryz.func281 [.tmp 2] fun hcl hlt=>?_
 clear hlt
 simp only [go_sem,bZ]
 refine bx (fun h1=>?_) (fun h1=>?_)
 ·have e:dU c=decide ((c.toNat:Int)≤122):=by unfold dU;rw [Bool.eq_iff_iff];simp at h1 ⊢;omega
  exact Y81
 ·have e:dU c=false:=by unfold dU;rw [Bool.eq_iff_iff];simp at h1 ⊢;omega
  exact Y81
def Aq:List AV→AHeap→(AV→Prop)→Prop
 |[x],_,K=>∃ c,x=bZ c∧K (.bool (dT c))
 |_,_,_=>False
theorem Jr:EntOk Tryz.prog 392 (Ent.pure Aq):=by
 refine Ype fun _ H K h=>?_
 unfold Aq at h
 split at h
 rotate_left
 ·exact h.elim
 obtain ⟨c,rfl,hK⟩:=h
 refine ⟨_,hK,?_⟩
 clear hK
 refine Yfv ax (tCq vf tNq) Tryz.func392 [.tmp 2] fun hcl hlt=>?_
 clear hlt
 simp only [go_sem,pD]
 refine ⟨c,rfl,?_⟩
 simp only [go_sem,bZ]
 have e95:(((c.toNat:Nat):Int)==95)=(c==95):=by rw [Bool.eq_iff_iff];simp [← UInt8.toNat_inj];omega
 rw [e95]
 refine bx (fun h1=>?_) (fun h1=>?_)
 ·have e:dT c=true:=by unfold dT;rw [h1];rfl
  exact Y81
 ·refine bx (fun h2=>?_) (fun h2=>?_)
  ·have h2':48≤c.toNat:=by simp at h2;omega
   refine bx (fun h3=>?_) (fun h3=>?_)
   ·have h3':c.toNat≤57:=by simp at h3;omega
    have e:dT c=true:=by unfold dT;rw [dtq h2',dtq h3'];simp
    exact Y81
   ·have h3':¬ c.toNat≤57:=by simp at h3;omega
    have e:dT c=(c==95):=by unfold dT;rw [dfq h3',h1];simp
    exact Y81
  ·have h2':¬ 48≤c.toNat:=by simp at h2;omega
   have e:dT c=(c==95):=by unfold dT;rw [dfq h2',h1];simp
   exact Y81
theorem ov {s:List UInt8} {k:Nat} (h:k<s.length):dD (s.drop k)=if dT (s.getD k 0) then s.getD k 0::dD (s.drop (k+1)) else []:=by
 have e:s.getD k 0=s[k]:=by simp [gEq,h]
 rw [e,dcq h]
 unfold dD
 by_cases hp:dT s[k]=true
 ·rw [if_pos hp,List.takeWhile_cons_of_pos hp]
 ·rw [if_neg hp,List.takeWhile_cons_of_neg hp]
theorem yU {s:List UInt8} {k:Nat} (h:k<s.length) (hp:dT (s.getD k 0)=true) (hw:dD s=s.take k++dD (s.drop k)):dD s=s.take (k+1)++dD (s.drop (k+1)):=by
 have e:s.getD k 0=s[k]:=by simp [gEq,h]
 rw [ov h,if_pos hp,e] at hw
 rw [hw,List.take_succ_eq_append_getElem h,List.append_assoc];rfl
theorem ux {s:List UInt8} {k:Nat} (h:k<s.length) (hp:dT (s.getD k 0)=false) (hw:dD s=s.take k++dD (s.drop k)):dD s=s.take k:=by
 rw [ov h,if_neg (by rw [hp];decide),yaj] at hw
 exact hw
theorem wh {s:List UInt8} {k:Nat} (h:¬ k<s.length) (hw:dD s=s.take k++dD (s.drop k)):dD s=s.take k:=by
 rw [ybf (by omega)] at hw
 simpa [dD] using hw
def zN:List AV→AHeap→(AV→Prop)→Prop
 |[.str s],_,K=>s.length≤140737488355328∧K (.str (dD s))
 |_,_,_=>False
theorem KA:EntOk Tryz.prog 280 (Ent.pure zN):=by
 refine Ype fun _ H K h=>?_
 unfold zN at h
 split at h
 rotate_left
 ·exact h.elim
 rename_i s
 obtain ⟨hsl,hK⟩:=h
 refine ⟨_,hK,?_⟩
 clear hK
 refine Yfv ax (tCq Jr tNq) Tryz.func280 [.tmp 2] fun hcl hlt=>?_
 clear hlt
 simp only [go_sem]
 refine az (A:=Nat) (fun k=>[(0,.str s),(3,.int .i64 (k:Int))]) (fun k=>H) (fun k=>k≤s.length∧dD s=s.take k++dD (s.drop k)) (fun k=>s.length - k) 0 ⟨by omega,by simp⟩ ?_ fun k hk=>?_
 ·exact Z1
 obtain ⟨hk,hs⟩:=hk
 simp only [go_sem]
 refine bx (fun h1=>?_) (fun h1=>?_)
 ·have hk1:k<s.length:=by simp at h1;omega
  have e5:=Yk5 k
  simp only [go_sem,Aq,iNq]
  refine ⟨by omega,s.getD k 0,rfl,?_⟩
  refine au (fun h2=>?_) (fun h2=>?_)
  ·exact Y153
  ·have hw:=ux hk1 h2 hs
   simp only [go_sem,iNq,hw]
   exact Y34
 ·have hk1:¬ k<s.length:=by simp at h1;omega
  have hw:=wh hk1 hs
  try simp only [go_sem,iNq,hw,zau]
  exact Y34
def uP:List AV→AHeap→(AV→Prop)→Prop
 |[.str s],_,K=>s.length≤140737488355328∧K (pk s)
 |_,_,_=>False
theorem sf {s:List UInt8} {k:Nat} {x:List UInt8} {kd:Nat} (h:k<s.length) (h3:mU (s.drop k)=some (kd,x)):x≠[]∧k+x.length≤s.length:=by
 obtain ⟨g1,g2,_⟩:=mQ h3
 rw [List.length_drop] at g2
 exact ⟨g1,by omega⟩
theorem yZ {s:List UInt8} {l:List Tok} (h:¬ 400<s.length) (e:rest s 0=(l,none)):ct s=(l,0,0):=by unfold ct;rw [if_neg h,e]
theorem mG {s:List UInt8} {l:List Tok} {k:Nat} (h:¬ 400<s.length) (e:rest s 0=(l,some k)):ct s=([],k,10):=by unfold ct;rw [if_neg h,e]
theorem yg {s:List UInt8} (h:dD s=[]) (h2:k9 s=[]):mU s=none:=by unfold mU;rw [h,h2]
theorem B8 {s y:List UInt8} (h:dD s=[]) (h2:k9 s=y) (hy:y≠[]):mU s=some (3,y):=by
 unfold mU;rw [h,h2];cases y with
 |nil=>exact absurd rfl hy
 |cons a b=>rfl
theorem A8 {s w:List UInt8} {c:UInt8} (h:dD s=c::w) (h2:dU c=true):mU s=some (2,c::w):=by unfold mU;rw [h];dsimp only;rw [if_pos h2]
theorem Bd {s w:List UInt8} {c:UInt8} {n:Nat} (h:dD s=c::w) (h2:dU c=false) (h3:lit (c::w)=some n):mU s=some (1,c::w):=by
 unfold mU;rw [h];dsimp only;rw [if_neg (by rw [h2];decide),h3];rfl
theorem vq {s w:List UInt8} {c:UInt8} (h:dD s=c::w) (h2:dU c=false) (h3:lit (c::w)=none):mU s=none:=by
 unfold mU;rw [h];dsimp only;rw [if_neg (by rw [h2];decide),h3];rfl
theorem py {s:List UInt8} {pre:List Tok} {k kd id:Nat} {x:List UInt8} {H Hd:AHeap} {fr:Fr} (hk:k<s.length) (hc:s[k]≠32) (ht:mU (s.drop k)=some (kd,x)) (hpl:pre.length≤k)
 (hr:rest s 0=(pre++(rest s k).1,(rest s k).2)) (hle:H.Le Hd) (hcd:Hd.Closed) (hid:H.nx≤id) (hg:Hd.get id=some (.buf 3 (pre.length+1)))
 (f0:Fr.get fr 0=.str s) (f5:Fr.get fr 5=.slice (.own id) 3 (dr (pre++[(kd,x,k)]))) (f6:Fr.get fr 6=.int .i64 ((k+x.length:Nat):Int)) :
 ∃ a':Nat × List Tok × Nat × AHeap,((a'.1≤s.length∧a'.2.1.length≤a'.1∧rest s 0=(a'.2.1++(rest s a'.1).1,(rest s a'.1).2))∧H.Le a'.2.2.2∧a'.2.2.2.Closed∧H.nx≤a'.2.2.1∧a'.2.2.2.get a'.2.2.1=some (.buf 3 a'.2.1.length)) ∧
  s.length - a'.1<s.length - k∧enterW H.nx fr Hd [(0,.str s),(5,.slice (.own a'.2.2.1) 3 (dr a'.2.1)),(6,.int .i64 (a'.1:Int))] a'.2.2.2:=by
 obtain ⟨hy1,hy2⟩:=sf hk ht
 have hyl:0<x.length:=List.length_pos_iff.2 hy1
 have hid2:id<Hd.nx:=glq hg
 refine ⟨(k+x.length,pre++[(kd,x,k)],id,Hd),⟨⟨hy2,?_,?_⟩,hle,hcd,hid,?_⟩,?_,hle.nx,lRq _,hcd,?_,?_⟩
 ·simp;omega
 ·rw [hr,JJ hk hc ht,List.append_assoc];rfl
 ·rw [hg];simp
 ·dsimp only;omega
 ·simp only [ltF,znd,znb,true_and,and_true]
  exact od hid2
 ·simp [aK,wk2,wk1,wkM,f0,f5,f6]
theorem xL {s:List UInt8} {k:Nat} (h:k<s.length):jz (s.drop k) [32]=(s[k]==32):=by
 unfold jz
 rw [dcq h]
 generalize s.drop (k+1)=r
 rw [Bool.eq_iff_iff,beq_iff_eq,beq_iff_eq]
 show [s[k]]=[32]↔_
 simp
theorem Jn:EntOk Tryz.prog 123 (Ent.pure uP):=by
 refine Ype fun _ H K h=>?_
 unfold uP at h
 split at h
 rotate_left
 ·exact h.elim
 rename_i s
 obtain ⟨hsl,hK⟩:=h
 refine ⟨_,hK,?_⟩
 clear hK
 refine Yfv ax (tCq si (tCq Dh (tCq KA (tCq vf (tCq uc tNq))))) Tryz.func123 [.tmp 2,.tmp 3,.tmp 4] fun hcl hlt=>?_
 clear hlt
 simp only [go_sem,pk]
 refine au (fun h1=>?_) (fun h1=>?_)
 ·exact Y126
 have h1':¬ 400<s.length:=by simp at h1;omega
 simp only [go_sem]
 refine az (A:=Nat × List Tok × Nat × AHeap) (fun a=>[(0,.str s),(5,.slice (.own a.2.2.1) 3 (dr a.2.1)),(6,.int .i64 (a.1:Int))]) (fun a=>a.2.2.2)
  (fun a=>(a.1≤s.length∧a.2.1.length≤a.1∧rest s 0=(a.2.1++(rest s a.1).1,(rest s a.1).2))∧H.Le a.2.2.2∧a.2.2.2.Closed∧H.nx≤a.2.2.1∧a.2.2.2.get a.2.2.1=some (.buf 3 a.2.1.length))
  (fun a=>s.length - a.1) (0,[],H.nx+1,(H.push (.buf 3 0)).push (.buf 3 0)) ⟨⟨by omega,by simp,by simp⟩,?_,?_,by simp,?_⟩ ?_ fun a ha=>?_
 ·exact Z0
 ·(repeat' (first|assumption|omega|exact True.intro|refine And.intro ?_ ?_|refine ag ?_|refine aa ?_|refine ae ?_ ?_|refine ai ?_ ?_|refine aq ?_|exact lRq _|refine lPq ?_ _|refine AHeap.Le.del ?_ ?_|(simp only [bt,and_true,true_and];first|done|omega|(simp;done))))
 ·exact Y130
 ·exact Z17
 obtain ⟨k,pre,id,Hc⟩:=a
 obtain ⟨⟨hk,hpl,hr⟩,hle,hcc,hid,hst⟩:=ha
 dsimp only at hk hpl hr hle hcc hid hst ⊢
 have hnx:H.nx≤Hc.nx:=hle.nx
 have hid2:id<Hc.nx:=glq hst
 simp only [go_sem]
 refine au (fun h2=>?_) (fun h2=>?_)
 ·have hk1:k<s.length:=by simp at h2;omega
  have e5:=Yk5 k
  simp only [go_sem,lT,iNq,List.take_length]
  refine ⟨by omega,au (fun h3=>?_) (fun h3=>?_)⟩
  ·have hc:s[k]=32:=by rw [xL hk1] at h3;simpa using h3
   exact Y27
  have n1:(id=Hc.nx)=False:=eq_false (by omega)
  have n2:(id=Hc.nx+1)=False:=eq_false (by omega)
  have n3:(id=Hc.nx+1+1)=False:=eq_false (by omega)
  have hc:s[k]≠32:=by rw [xL hk1] at h3;simpa using h3
  have hsd:(s.drop k).length≤400:=by rw [List.length_drop];omega
  simp only [go_sem,sR,zN]
  refine ⟨by omega,?_⟩
  cases hw:dD (s.drop k) with
  |nil =>
   have en:(([]:List UInt8) != [])=false:=rfl
   rcases Classical.em (k9 (s.drop k)=[]) with hy|hy
   ·have htk:=yg hw hy
    rw [n5 hk1 hc htk,yaj] at hr
    have hsc:=mG h1' hr
    have eb:(([]:List UInt8)==[])=true:=rfl
    simp only [go_sem,hsc,hy,en,eb,zau,zat,fS]
    exact Y79
   ·have htk:=B8 hw rfl hy
    have eb:(k9 (s.drop k)==[])=false:=by simpa using hy
    have eb0:(([]:List UInt8)==[])=true:=rfl
    obtain ⟨hy1,hy2⟩:=sf hk1 htk
    generalize k9 (s.drop k)=y at *
    have e6:IntKind.i64.wrap ((k:Int)+(y.length:Int))=((k+y.length:Nat):Int):=by rw [wrap_i64]<;>omega
    simp only [go_sem,en,eb,eb0,zau,zat,n1,n2,hst,aT,KF,e6,tM]
    refine ⟨by omega,py hk1 hc htk hpl hr (((bF hle hid).push _).push _) ?_ hid ?_ rfl rfl rfl⟩
    ·exact Y123
    ·exact Y45
  |cons c w =>
   have en:((c::w) != [])=true:=rfl
   have eb:((c::w)==[])=false:=rfl
   simp only [go_sem,en,eb,zat,pD]
   refine ⟨by omega,c,rfl,?_⟩
   cases hlc:dU c with
   |true =>
    have htk:=A8 hw hlc
    obtain ⟨_,hy2⟩:=sf hk1 htk
    have e6:IntKind.i64.wrap ((k:Int)+((w.length+1:Nat):Int))=((k+(c::w).length:Nat):Int):=by
     exact Y170
    simp only [go_sem,en,eb,zau,zat,n1,n2,hst,aT,I9,e6,tM]
    refine ⟨by omega,py hk1 hc htk hpl hr (((bF hle hid).push _).push _) ?_ hid ?_ rfl rfl rfl⟩
    ·exact Y123
    ·exact Y45
   |false =>
    have hcw:(c::w).length≤400:=by rw [← hw];exact Nat.le_trans (List.takeWhile_sublist _).length_le hsd
    simp only [go_sem,en,eb,zau,zat,nn]
    cases hli:lit (c::w) with
    |none =>
     have htk:=vq hw hlc hli
     rw [n5 hk1 hc htk,yaj] at hr
     have hsc:=mG h1' hr
     simp only [go_sem,hsc,uI,nAV,zau,zat,fS]
     refine ⟨by simp only [yaz] at hcw;omega,?_⟩
     exact Y120
    |some n =>
     have htk:=Bd hw hlc hli
     obtain ⟨_,hy2⟩:=sf hk1 htk
     have e6:IntKind.i64.wrap ((k:Int)+((w.length+1:Nat):Int))=((k+(c::w).length:Nat):Int):=by
      exact Y170
     simp only [go_sem,uI,nAV,zau,zat,n1,n2,n3,eb,hst,aT,KW,e6,tM]
     refine ⟨by simp only [yaz] at hcw;omega,by omega,py hk1 hc htk hpl hr ((((bF hle hid).push _).push _).push _) ?_ hid ?_ rfl rfl rfl⟩
     ·exact ag (ae (ae (aa hcc) (by simp [znq,znr,znb,znd])) (by simp [znq,znr,znb,znd]))
     ·exact Y88
 ·exact Y131
end Go.AL
open Go Go.AL Go.Proofs
namespace Go.AL
def zp:List AV→AHeap→(AV→Prop)→Prop
 |[x],_,K=>∃ c,x=bZ c∧K (.bool (dT c))
 |_,_,_=>False
theorem IZ:EntOk Tryz.prog 464 (Ent.pure zp):=by
 refine Ype fun _ H K h=>?_
 unfold zp at h
 split at h
 rotate_left
 ·exact h.elim
 obtain ⟨c,rfl,hK⟩:=h
 refine ⟨_,hK,?_⟩
 clear hK
 refine Yfv ax tNq Tryz.func464 [.tmp 2] fun hcl hlt=>?_
 clear hlt
 simp only [go_sem,bZ]
 have e95:(((c.toNat:Nat):Int)==95)=(c==95):=by rw [Bool.eq_iff_iff];simp [← UInt8.toNat_inj];omega
 rw [e95]
 have fin:∀ {t:Bool},dT c=t→af H (AV.bool t) H (AV.bool (dT c)):=fun e=>by
  rw [e]
  exact Z0
 have tl:dU c=false→mB (decide ((c.toNat:Int) ≥ 48)) (mB (decide ((c.toNat:Int)≤57)) (af H (AV.bool true) H (AV.bool (dT c))) (af H (AV.bool (c==95)) H (AV.bool (dT c)))) (af H (AV.bool (c==95)) H (AV.bool (dT c))):=fun h1=>by
  refine bx (fun h2=>?_) (fun h2=>?_)
  ·have h2':48≤c.toNat:=by simp at h2;omega
   refine bx (fun h3=>?_) (fun h3=>?_)
   ·have h3':c.toNat≤57:=by simp at h3;omega
    exact fin (by unfold dT;rw [dtq h2',dtq h3'];simp)
   ·have h3':¬ c.toNat≤57:=by simp at h3;omega
    exact fin (by unfold dT;rw [dfq h3',h1];simp)
  ·have h2':¬ 48≤c.toNat:=by simp at h2;omega
   exact fin (by unfold dT;rw [dfq h2',h1];simp)
 refine bx (fun h1=>bx (fun h2=>?_) (fun h2=>tl ?_)) (fun h1=>tl ?_)
 ·exact fin (by unfold dT dU;simp at h1 h2;rw [dtq (by omega),dtq (by omega)];simp)
 ·unfold dU;simp at h2;rw [dfq (p:=c.toNat≤122) (by omega)];simp
 ·unfold dU;simp at h1;rw [dfq (p:=97≤c.toNat) (by omega)];simp
def zf:List AV→AHeap→(AV→Prop)→Prop
 |[.str s],_,K=>s.length≤140737488355328∧K (.int .i64 ((dD s).length:Int))
 |_,_,_=>False
theorem Ir:EntOk Tryz.prog 409 (Ent.pure zf):=by
 refine Ype fun _ H K h=>?_
 unfold zf at h
 split at h
 rotate_left
 ·exact h.elim
 rename_i s
 obtain ⟨hsl,hK⟩:=h
 refine ⟨_,hK,?_⟩
 clear hK
 refine Yfv ax (tCq IZ tNq) Tryz.func409 [.tmp 2] fun hcl hlt=>?_
 clear hlt
 simp only [go_sem]
 refine az (A:=Nat) (fun k=>[(0,.str s),(3,.int .i64 (k:Int))]) (fun k=>H) (fun k=>k≤s.length∧dD s=s.take k++dD (s.drop k)) (fun k=>s.length - k) 0 ⟨by omega,by simp⟩ ?_ fun k hk=>?_
 ·exact Z1
 obtain ⟨hk,hs⟩:=hk
 have hmin:(s.take k).length=k:=by rw [List.length_take];omega
 simp only [go_sem]
 refine bx (fun h1=>?_) (fun h1=>?_)
 ·have hk1:k<s.length:=by simp at h1;omega
  have e5:=Yk5 k
  simp only [go_sem,zp,iNq]
  refine ⟨by omega,s.getD k 0,rfl,?_⟩
  refine au (fun h2=>?_) (fun h2=>?_)
  ·exact Y153
  ·have hw:=ux hk1 h2 hs
   simp only [go_sem,iNq,hw,hmin]
   exact Z0
 ·have hk1:¬ k<s.length:=by simp at h1;omega
  have hw:=wh hk1 hs
  try simp only [go_sem,iNq,hw,hmin,zau]
  exact Z0
theorem ri {s p:List UInt8}:jz s p=(decide (p.length≤s.length)&&(s.take p.length==p)):=by
 unfold jz
 rw [Bool.eq_iff_iff]
 simp
 intro h
 have:=congrArg List.length h
 rw [List.length_take] at this
 omega
def tU:List AV→AHeap→(AV→Prop)→Prop
 |[.str s],_,K=>K (.int .i64 ((k9 s).length:Int))
 |_,_,_=>False
theorem DV:EntOk Tryz.prog 408 (Ent.pure tU):=by
 refine Ype fun _ H K h=>?_
 unfold tU at h
 split at h
 rotate_left
 ·exact h.elim
 rename_i s
 refine ⟨_,h,?_⟩
 clear h
 refine Yfv ax tNq Tryz.func408 [.tmp 2] fun hcl hlt=>?_
 clear hlt
 simp only [go_sem,JR,jP]
 refine az (A:=Nat) (fun k=>[(0,.str s),(5,.slice .any 1 (sAV syms)),(6,.int .i64 15),(7,.int .i64 (k:Int))]) (fun k=>H) (fun k=>k≤15∧k9 s=wJ (syms.drop k) s) (fun k=>15 - k) 0 ⟨by omega,rfl⟩ ?_ fun k hk=>?_
 ·(simp only [bkq,enterW,aK,ltF,ne_eq,Nat.reduceEqDiff,reduceCtorEq,cY,iA];try simp (disch:=first|exact Zd|omega) [↓zmk,beq,ybc,ybd,ybe,af,wk,wk2,wk1,wkM,wkL,aj,ybf,byq,biq,ah,hcl,cY,iA];try (repeat' (first|assumption|omega|exact True.intro|refine And.intro ?_ ?_|refine ag ?_|refine aa ?_|refine ae ?_ ?_|refine ai ?_ ?_|refine aq ?_|exact lRq _|refine lPq ?_ _|refine AHeap.Le.del ?_ ?_|(simp only [bt,and_true,true_and,cY,iA];first|done|omega|(simp;done)))))
  trace_state
 obtain ⟨hk,hs⟩:=hk
 simp only [go_sem]
 refine au (fun h1=>?_) (fun h1=>?_)
 ·have hk2:k<15:=by simp at h1;omega
  have hk1:k<syms.length:=by rw [iA];exact hk2
  have hg:(sAV syms).getD k .junk=.str (syms.getD k []):=zn hk1
  have e5:=Yk5 k
  have hgk:syms.getD k []=syms[k]:=by simp [gEq,hk1]
  rw [dcq hk1,y6] at hs
  rw [hgk] at hg
  generalize syms[k]=x at *
  simp only [go_sem,iNq,jP,iA,hg,e5]
  refine ⟨by omega,?_⟩
  refine bx (fun h2=>?_) (fun h2=>?_)
  ·have h2':x.length≤s.length:=by simp at h2;omega
   refine ⟨by omega,au (fun h3=>?_) (fun h3=>?_)⟩
   ·rw [if_pos (by rw [ri,dtq h2'];simpa using h3)] at hs
    simp only [go_sem,hs]
    exact Z0
   ·rw [if_neg (by rw [ri,dtq h2'];simpa using h3)] at hs
    simp only [go_sem,e5]
    exact Y139
  ·have h2':¬ x.length≤s.length:=by simp at h2;omega
   rw [if_neg (by rw [ri,dfq h2'];simp)] at hs
   try simp only [go_sem,e5,zau]
   exact Y139
 ·exact Y134
def uZ:List AV→AHeap→(AV→Prop)→Prop
 |[.str s],_,K=>s.length≤140737488355328∧K (pk s)
 |_,_,_=>False
theorem xr {s:List UInt8} {k kd:Nat} {x:List UInt8} (h:mU (s.drop k)=some (kd,x)):(s.take (k+x.length)).drop k=x:=by
 rw [List.drop_take,Nat.add_sub_cancel_left]
 exact (mQ h).2.2
theorem Nl {w:List UInt8}:lit (95::w)=none:=by
 unfold lit
 rw [if_neg (by simp [jz]),if_neg (by simp)]
 rfl
theorem HE {s w:List UInt8} {c:UInt8} {k:Nat} (h:k<s.length) (hw:dD (s.drop k)=c::w):s[k]=c∧dT c=true:=by
 have e:s.getD k 0=s[k]:=by simp [gEq,h]
 rw [ov h] at hw
 split at hw
 ·rename_i hp
  rw [e] at hw hp
  injection hw with h1 h2
  subst h1
  exact ⟨rfl,hp⟩
 ·cases hw
theorem J6:EntOk Tryz.prog 291 (Ent.pure uZ):=by
 refine Ype fun _ H K h=>?_
 unfold uZ at h
 split at h
 rotate_left
 ·exact h.elim
 rename_i s
 obtain ⟨hsl,hK⟩:=h
 refine ⟨_,hK,?_⟩
 clear hK
 refine Yfv ax (tCq DV (tCq Ir (tCq Cu tNq))) Tryz.func291 [.tmp 2,.tmp 3,.tmp 4] fun hcl hlt=>?_
 clear hlt
 simp only [go_sem,pk]
 refine au (fun h1=>?_) (fun h1=>?_)
 ·exact Y126
 have h1':¬ 400<s.length:=by simp at h1;omega
 simp only [go_sem]
 refine az (A:=Nat × List Tok × Nat × AHeap) (fun a=>[(0,.str s),(5,.slice (.own a.2.2.1) 3 (dr a.2.1)),(6,.int .i64 (a.1:Int))]) (fun a=>a.2.2.2)
  (fun a=>(a.1≤s.length∧a.2.1.length≤a.1∧rest s 0=(a.2.1++(rest s a.1).1,(rest s a.1).2))∧H.Le a.2.2.2∧a.2.2.2.Closed∧H.nx≤a.2.2.1∧a.2.2.2.get a.2.2.1=some (.buf 3 a.2.1.length))
  (fun a=>s.length - a.1) (0,[],H.nx+1,(H.push (.buf 3 0)).push (.buf 3 0)) ⟨⟨by omega,by simp,by simp⟩,?_,?_,by simp,?_⟩ ?_ fun a ha=>?_
 ·exact Z0
 ·(repeat' (first|assumption|omega|exact True.intro|refine And.intro ?_ ?_|refine ag ?_|refine aa ?_|refine ae ?_ ?_|refine ai ?_ ?_|refine aq ?_|exact lRq _|refine lPq ?_ _|refine AHeap.Le.del ?_ ?_|(simp only [bt,and_true,true_and];first|done|omega|(simp;done))))
 ·exact Y130
 ·exact Z17
 obtain ⟨k,pre,id,Hc⟩:=a
 obtain ⟨⟨hk,hpl,hr⟩,hle,hcc,hid,hst⟩:=ha
 dsimp only at hk hpl hr hle hcc hid hst ⊢
 have hnx:H.nx≤Hc.nx:=hle.nx
 have hid2:id<Hc.nx:=glq hst
 simp only [go_sem]
 refine au (fun h2=>?_) (fun h2=>?_)
 ·have hk1:k<s.length:=by simp at h2;omega
  have e5:=Yk5 k
  have hsg:s.getD k 0=s[k]:=by simp [gEq,hk1]
  simp only [go_sem,iNq,List.take_length,hsg]
  refine ⟨by omega,au (fun h3=>?_) (fun h3=>?_)⟩
  ·have hc:s[k]=32:=by simp at h3;rw [← UInt8.toNat_inj];simp;omega
   exact Y27
  have n1:(id=Hc.nx)=False:=eq_false (by omega)
  have n2:(id=Hc.nx+1)=False:=eq_false (by omega)
  have n3:(id=Hc.nx+1+1)=False:=eq_false (by omega)
  have hc:s[k]≠32:=fun e=>by rw [e] at h3;simp at h3
  have hsd:(s.drop k).length≤400:=by rw [List.length_drop];omega
  simp only [go_sem,tU,zf,List.take_length,iNq]
  refine ⟨by omega,by omega,by omega,?_⟩
  cases hw:dD (s.drop k) with
  |nil =>
   refine au (fun h4=>by simp at h4) (fun _=>?_)
   simp only [go_sem]
   refine au (fun h5=>?_) (fun h5=>?_)
   ·have hy:k9 (s.drop k)=[]:=by simp at h5;exact h5
    have htk:=yg hw hy
    rw [n5 hk1 hc htk,yaj] at hr
    have hsc:=mG h1' hr
    simp only [go_sem,hsc,hy,fS]
    exact Y79
   ·have hy:k9 (s.drop k)≠[]:=by intro e;rw [e] at h5;simp at h5
    have htk:=B8 hw rfl hy
    obtain ⟨hy1,hy2⟩:=sf hk1 htk
    have hx:=xr htk
    generalize k9 (s.drop k)=y at *
    have e6:IntKind.i64.wrap ((k:Int)+(y.length:Int))=((k+y.length:Nat):Int):=by rw [wrap_i64]<;>omega
    simp only [go_sem,iNq,n1,n2,hst,hx,aT,KF,e6,tM]
    refine ⟨by omega,by omega,py hk1 hc htk hpl hr (((bF hle hid).push _).push _) ?_ hid ?_ rfl rfl rfl⟩
    ·exact Y123
    ·exact Y45
  |cons c w =>
   obtain ⟨hsc0,hpt⟩:=HE hk1 hw
   have hcw:(c::w).length≤400:=by rw [← hw];exact Nat.le_trans (List.takeWhile_sublist _).length_le hsd
   have hx:(s.take (k+(w.length+1))).drop k=c::w:=by
    rw [show w.length+1=(c::w).length from rfl,List.drop_take,Nat.add_sub_cancel_left,← hw];exact lj _
   have hy2:k+(c::w).length≤s.length:=by
    have:=(List.takeWhile_sublist (p:=dT) (l:=s.drop k)).length_le
    rw [show (s.drop k).takeWhile dT=c::w from hw,List.length_drop] at this
    simp only [yaz] at this ⊢;omega
   have e6:IntKind.i64.wrap ((k:Int)+((w.length+1:Nat):Int))=((k+(c::w).length:Nat):Int):=by
    exact Y170
   refine au (fun _=>?_) (fun h4=>by simp at h4)
   simp only [go_sem,iNq,hsg,hsc0]
   refine ⟨by omega,au (fun h5=>?_) (fun h5=>?_)⟩
   ·have hc95:c=95:=by simp at h5;rw [← UInt8.toNat_inj];simp;omega
    subst hc95
    have htk:=vq hw (by decide) Nl
    rw [n5 hk1 hc htk,yaj] at hr
    have hsc:=mG h1' hr
    simp only [go_sem,hsc,fS]
    exact Y79
   have hc95:c≠95:=fun e=>by rw [e] at h5;simp at h5
   simp only [go_sem,iNq,hsg,hsc0]
   refine ⟨by omega,au (fun h6=>?_) (fun h6=>?_)⟩
   ·have hlc:dU c=false:=by unfold dU;simp at h6;rw [dfq (p:=97≤c.toNat) (by omega)];simp
    simp only [go_sem,iNq,rf,e6,hx]
    cases hli:lit (c::w) with
    |none =>
     have htk:=vq hw hlc hli
     rw [n5 hk1 hc htk,yaj] at hr
     have hsc:=mG h1' hr
     simp only [go_sem,hsc,rm,zAV,zau,zat,fS]
     refine ⟨by simp only [yaz] at hy2;omega,by simp only [yaz] at hcw;omega,?_⟩
     exact Y120
    |some n =>
     have htk:=Bd hw hlc hli
     simp only [go_sem,rm,zAV,zau,zat]
     refine ⟨by simp only [yaz] at hy2;omega,by simp only [yaz] at hcw;omega,au (fun h7=>by simp at h7;omega) (fun _=>?_)⟩
     simp only [go_sem,iNq,n1,n2,n3,hst,hx,aT,KW,e6,tM]
     refine ⟨by simp only [yaz] at hy2;omega,by omega,py hk1 hc htk hpl hr ((((bF hle hid).push _).push _).push _) ?_ hid ?_ rfl rfl rfl⟩
     ·exact ag (ae (ae (aa hcc) (by simp [znq,znr,znb,znd])) (by simp [znq,znr,znc,zmi]))
     ·exact Y88
   ·have hlc:dU c=true:=by
     unfold dT at hpt
     simp at h6
     rw [dfq (p:=c.toNat≤57) (by omega),beq_eq_false_iff_ne.2 hc95] at hpt
     simpa using hpt
    have htk:=A8 hw hlc
    simp only [go_sem,iNq]
    refine au (fun h7=>by simp at h7;omega) (fun _=>?_)
    simp only [go_sem,iNq,n1,n2,hst,hx,aT,I9,e6,tM]
    refine ⟨by simp only [yaz] at hy2;omega,by omega,py hk1 hc htk hpl hr (((bF hle hid).push _).push _) ?_ hid ?_ rfl rfl rfl⟩
    ·exact Y123
    ·exact Y45
 ·exact Y131
end Go.AL
open Go Go.AL Go.Proofs
namespace Go.AL
theorem IX:ti Tryz.prog 83=some ⟨.struct [(0,22,false),(1,3,false)],2,32,.agg [.slice .nil 1 [],.int .i64 0]⟩:=by kernel_rfl
attribute [go_sem] IX
theorem mod_lt {x n:Int} (hn:1≤n):0≤(x.tmod n+n).tmod n∧(x.tmod n+n).tmod n<n:=by
 have h1:=Int.lt_tmod_of_pos x (show 0<n by omega)
 rw [Int.tmod_eq_emod_of_nonneg (by omega)]
 exact Y121
theorem IF {l:List Tok} {k:Nat} (h:k<l.length):(dr l).getD k .junk=zE l[k]:=by simp [dr,gEq,h]
end Go.AL
