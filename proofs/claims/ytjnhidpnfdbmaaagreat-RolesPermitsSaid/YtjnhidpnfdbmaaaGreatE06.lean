/- Lemmas of the proof; no condition. -/
import Derived.Test.YtjnhidpnfdbmaaaGreatN05d
set_option linter.all false
set_option maxRecDepth 10000
set_option maxHeartbeats 32000000
open Go Go.AL
namespace Go.AL
def eI(c:UInt8):Bool:=decide (97≤c.toNat)&&decide (c.toNat≤122)
def eC(c:UInt8):Bool:=eI c||(decide (48≤c.toNat)&&decide (c.toNat≤57))||c==95
def syms:List (List UInt8):=[[38,38],[124,124],[45,62],[61,61],[33,61],[60,61],[62,61],[58,58],[40],[41],[33],[60],[62],[43],[45]]
def xw(l:List (List UInt8))(s:List UInt8):List UInt8:=match l with
 |[]=>[]
 |x::l=>if j7 s x then x else xw l s
def mq(s:List UInt8):List UInt8:=xw syms s
def ep(s:List UInt8):List UInt8:=s.takeWhile eC
abbrev Tok:=Nat × List UInt8 × Nat
def og(s:List UInt8):Option (Nat × List UInt8) :=
 match ep s with
 |[]=>match mq s with
  |[]=>none
  |x=>some (3,x)
 |c::w=>if eI c then some (2,c::w)else if(lit (c::w)).isSome then some (1,c::w)else none
def lH:Nat→List UInt8→Nat→List Tok × Option Nat
 |0,_,_=>([],none)
 |_+1,[],_=>([],none)
 |f+1,c::r,k=>if c=32 then lH f r (k+1)else match og (c::r)with
  |none=>([],some k)
  |some (kd,x)=>((kd,x,k)::(lH f ((c::r).drop x.length) (k+x.length)).1,(lH f ((c::r).drop x.length) (k+x.length)).2)
theorem Ha{s:List UInt8}:∀{l:List (List UInt8)},(∀ x∈l,x≠[])→xw l s≠[]→xw l s∈l∧j7 s (xw l s)=true
 |[],_,h=>absurd rfl h
 |x::l,hl,h=>by
  unfold xw at h ⊢
  by_cases hx:j7 s x=true
  ·rw[if_pos hx];exact⟨List.mem_cons_self,hx⟩
  ·rw[if_neg hx]at h ⊢
   obtain⟨h1,h2⟩:=Ha (fun y hy=>hl y (List.mem_cons_of_mem _ hy)) h
   exact⟨List.mem_cons_of_mem _ h1,h2⟩
theorem OE:∀ x∈syms,x≠[]:=Xc
theorem wZ{s p:List UInt8}(h:j7 s p=true):p.length≤s.length∧s.take p.length=p:=by
 have h2:=eq_of_beq h
 have:=congrArg List.length h2
 rw[List.length_take]at this
 exact⟨Xa,h2⟩
theorem l4{p:UInt8→Bool}:∀(s:List UInt8),s.take (s.takeWhile p).length=s.takeWhile p
 |[]=>rfl
 |c::s=>by
  by_cases h:p c=true
  ·rw[List.takeWhile_cons_of_pos h,yaz,yaq,l4 s]
  ·rw[List.takeWhile_cons_of_neg h];rfl
theorem od{s:List UInt8}{kd:Nat}{x:List UInt8}(h:og s=some (kd,x)):x≠[]∧x.length≤s.length∧s.take x.length=x:=by
 unfold og at h
 split at h
 ·split at h
  ·cases h
  ·rename_i y hy
   injection h with h
   injection h with h1 h2
   subst h2
   obtain⟨_,h4⟩:=Ha OE (s:=s) hy
   exact⟨hy,wZ h4⟩
 ·rename_i c w hw
  have hx:x=c::w:=by
   split at h
   ·injection h with h;injection h with h1 h2;exact h2.symm
   ·split at h
    ·injection h with h;injection h with h1 h2;exact h2.symm
    ·cases h
  subst hx
  refine⟨Xb,?_,?_⟩
  ·rw[← hw];exact(List.takeWhile_sublist _).length_le
  ·rw[← hw];exact l4 s
theorem ov:∀(f g:Nat)(s:List UInt8)(k:Nat),s.length≤f→s.length≤g→lH f s k=lH g s k
 |0,0,_,_,_,_=>rfl
 |0,g+1,s,k,h,_=>by
  have:s=[]:=List.eq_nil_of_length_eq_zero Xa
  subst this;rfl
 |f+1,0,s,k,_,h=>by
  have:s=[]:=List.eq_nil_of_length_eq_zero Xa
  subst this;rfl
 |f+1,g+1,[],k,_,_=>rfl
 |f+1,g+1,c::r,k,h1,h2=>by
  simp only[yaz]at h1 h2
  unfold lH
  split
  ·exact ov f g r (k+1) Xa Xa
  ·split
   ·rfl
   ·rename_i kd x hx
    obtain⟨h3,h4,_⟩:=od hx
    have h5:0<x.length:=List.length_pos_iff.2 h3
    have e:=ov f g ((c::r).drop x.length) (k+x.length) (by rw[List.length_drop,yaz];omega) (by rw[List.length_drop,yaz];omega)
    rw[e]
def rest(s:List UInt8)(k:Nat):List Tok × Option Nat:=lH s.length (s.drop k) k
theorem C7{s:List UInt8}{k:Nat}(h:s.length≤k):rest s k=([],none):=by
 unfold rest
 rw[ybf h]
 cases s.length<;>rfl
theorem yl{s:List UInt8}{k:Nat}(h:k<s.length)(h2:s[k]=32):rest s k=rest s (k+1):=by
 unfold rest
 obtain⟨f,hf⟩:∃ f,s.length=f+1:=⟨s.length-1,Xa⟩
 rw[dcq h,h2]
 rw[hf]
 show lH (f+1) (32::s.drop (k+1)) k=_
 rw[lH,if_pos rfl]
 exact V166
theorem p9{s:List UInt8}{k:Nat}(h:k<s.length)(h2:s[k]≠32)(h3:og (s.drop k)=none):rest s k=([],some k):=by
 unfold rest
 obtain⟨f,hf⟩:∃ f,s.length=f+1:=⟨s.length-1,Xa⟩
 rw[dcq h]at h3 ⊢
 rw[hf]
 rw[lH,if_neg h2,h3]
theorem J3{s:List UInt8}{k kd:Nat}{x:List UInt8}(h:k<s.length)(h2:s[k]≠32)(h3:og (s.drop k)=some (kd,x)) :
 rest s k=((kd,x,k)::(rest s (k+x.length)).1,(rest s (k+x.length)).2):=by
 obtain⟨g1,g2,_⟩:=od h3
 have g3:0<x.length:=List.length_pos_iff.2 g1
 rw[List.length_drop]at g2
 unfold rest
 obtain⟨f,hf⟩:∃ f,s.length=f+1:=⟨s.length-1,Xa⟩
 have e:lH f ((s.drop k).drop x.length) (k+x.length)=lH s.length (s.drop (k+x.length)) (k+x.length):=by
  rw[List.drop_drop]
  exact V166
 rw[← e,hf]
 rw[dcq h]at h3 ⊢
 rw[lH,if_neg h2,h3]
def cE(s:List UInt8):List Tok × Nat × Nat:=if 400<s.length then([],0,3)else match rest s 0 with
 |(l,none)=>(l,0,0)
 |(_,some k)=>([],k,10)
end Go.AL
open Go Go.AL Go.Proofs
namespace Go.AL
def lB:PCt
 |[x],_,K=>∃ c,x=cq c∧K (.int .i64 (dg c:Nat))
 |_,_,_=>False
theorem HM:EPp 203 lB:=by
 refine Ype fun _ H K h=>?_
 unfold lB at h
 split at h<;>try exact h.elim
 obtain⟨c,rfl,hK⟩:=h
 refine⟨_,hK,?_⟩
 clear hK
 refine Yfu az tNq Tryz.func203 [.tmp 2] fun hcl=>?_
 have hc:c.toNat<256:=UInt8.toNat_lt c
 have w8:∀ x,IntKind.u8.wrap x=x%256:=fun x=>by simp[IntKind.wrap,IntKind.signed,IntKind.bits]
 simp only[go_sem,cq]
 refine bx (fun h1=>?_) (fun h1=>?_)
 ·refine aq (fun h2=>?_) (fun h2=>?_)
  ·have hd:dg c=c.toNat-48:=by unfold dg;rw[if_pos (by simp at h1 h2;omega)]
   have e:IntKind.i64.wrap (IntKind.u8.wrap ((c.toNat:Int)-48))=(dg c:Nat):=by
    rw[w8,hd];simp at h1 h2;rw[wrap_i64]<;>omega
   exact V75
  ·refine T9 ?_
   refine bx (fun h3=>?_) (fun h3=>?_)
   ·refine aq (fun h4=>?_) (fun h4=>?_)
    ·have hd:dg c=c.toNat-87:=by unfold dg;simp at h1 h2 h3 h4;rw[if_neg (by omega),if_pos (by omega)]
     have e:IntKind.i64.wrap (IntKind.i64.wrap (IntKind.u8.wrap ((c.toNat:Int)-97))+10)=(dg c:Nat):=by
      rw[w8,hd];simp at h1 h2 h3 h4
      have e1:IntKind.i64.wrap (((c.toNat:Int)-97)%256)=(c.toNat:Int)-97:=Xe
      rw[e1,wrap_i64]<;>omega
     exact V75
    ·have hd:dg c=99:=by unfold dg;simp at h1 h2 h3 h4;rw[if_neg (by omega),if_neg (by omega)]
     simp only[go_sem,hd]
     exact Z0
   ·have hd:dg c=99:=by unfold dg;simp at h1 h2 h3;rw[if_neg (by omega),if_neg (by omega)]
    try simp only[go_sem,zau,hd]
    exact Z0
 ·try simp only[go_sem,zau]
  refine bx (fun h3=>?_) (fun h3=>?_)
  ·refine aq (fun h4=>?_) (fun h4=>?_)
   ·simp at h1 h3;omega
   ·have hd:dg c=99:=by unfold dg;simp at h1 h3 h4;rw[if_neg (by omega),if_neg (by omega)]
    simp only[go_sem,hd]
    exact Z0
  ·have hd:dg c=99:=by unfold dg;simp at h1 h3;rw[if_neg (by omega),if_neg (by omega)]
   try simp only[go_sem,zau,hd]
   exact Z0
def sM(o:Option Nat):AV:=match o with
 |some n=>.tup [zAV n,.bool true]
 |none=>.tup [zAV 0,.bool false]
theorem J6{s:List UInt8}(h:¬ (2<s.length∧j7 s [48,120]=true)):lit s=if s=[]then none else fO 10 0 s:=by
 unfold lit
 by_cases hp:j7 s [48,120]=true
 ·rw[if_pos hp]
  have hl:s.length=2:=by
   have:=congrArg List.length (eq_of_beq hp)
   rw[List.length_take]at this
   simp at this
   have:¬ 2<s.length:=fun h2=>h ⟨h2,hp⟩
   omega
  have hs:s=[48,120]:=by
   have:=eq_of_beq hp
   rwa[ybc (Xd)]at this
  subst hs
  decide +kernel
 ·rw[if_neg hp]
def sD:PCt
 |[.str s],_,K=>(s.length≤140737488355328)∧K (sM (lit s))
 |_,_,_=>False
theorem Cy:EPp 186 sD:=by
 refine Ype fun _ H K h=>?_
 unfold sD at h
 split at h<;>try exact h.elim
 rename_i s
 obtain⟨hl,hK⟩:=h
 refine⟨_,hK,?_⟩
 refine ACalls.fW az (tCq EK (tCq HM (tCq wH (tCq MT tNq)))) Tryz.func186 [.cell 2 270,.tmp 3] (nrq _) (T:=ay [(15,[[],[],[],[],[],[4],[0,4,5],[0,4,5,6]])]) (h:=fun hcl hlt=>?_)
 clear hlt hK
 simp only[go_sem,gu,jC]
 refine bx (fun h1=>?_) (fun h1=>?_)
 ·have hl2:2<s.length:=by simp at h1;omega
  refine⟨Xa,aq (fun h0=>?_) (fun h0=>?_)⟩
  ·have hp:j7 s [48,120]=true:=by unfold j7;simpa using h0
   have hr:lit s=if s.drop 2=[]then none else fO 16 0 (s.drop 2):=by unfold lit;rw[if_pos hp]
   try simp only[go_sem,gu,jC,iNq,List.take_length]
   refine⟨Xa,Xa,?_⟩
   have hl':(s.drop 2).length≤140737488355328:=Xt
   rw[hr]
   clear hr hl
   generalize s.drop 2=b at *
   refine aA (A:=Nat × Nat) (fun x=>[(0,.str b),(2,.ptr H.nx 0),(4,.int .i64 16),(5,.ptr (H.nx+1) 0),(6,.int .i64 (x.1:Int))])
    (fun x=>(H.push (.cells [.bool false,.slice .nil 1 []])).push (.cells [.bool (decide ((x.2:Int)<0)),.slice .any 1 (cU (cO ((x.2:Int)).natAbs))]))
    (fun x=>x.1≤b.length∧x.2<2^128∧fO 16 0 b=fO 16 x.2 (b.drop x.1)) (fun x=>b.length-x.1) (0,0) ⟨Xa,Xc,rfl⟩ ?_ fun x hI=>?_
   ·exact Z12
   obtain⟨k,n⟩:=x
   obtain⟨hk,hn,hl2⟩:=hI
   dsimp only at *
   refine T33 ?_
   refine aq (fun h2=>?_) (fun h2=>?_)
   ·have h2':k<b.length:=by simpa using h2
    rw[dcq h2']at hl2
    have hg:AV.int .u8 ((b.getD k 0).toNat:Int)=cq b[k]:=by simp[gEq,h2',cq]
    have e5:=Yk5 k
    have hbn:b≠[]:=by intro h;subst h;simp at h2'
    simp only[fO]at hl2
    generalize b[k]=c at *
    have hc:dg c≤99:=by unfold dg;have:=UInt8.toNat_lt c;split<;>(try split)<;>omega
    simp only[go_sem,byq,hg,lB,gu,jC]
    refine⟨Xa,c,rfl,?_⟩
    refine T33 ?_
    refine aq (fun h3=>?_) (fun h3=>?_)
    ·have hd:¬ dg c<16:=by simp at h3;omega
     rw[if_neg hd]at hl2
     simp only[go_sem,byq,gu,jC,hl2,if_neg hbn,sM]
     exact V32
    ·have hd:dg c<16:=by simp at h3;omega
     rw[if_pos hd]at hl2
     simp only[go_sem,byq,gu,jC]
     refine⟨Xa,?_⟩
     refine aA (A:=Nat) (fun j=>[(0,.str b),(2,.ptr H.nx 0),(4,.int .i64 16),(5,.ptr (H.nx+1) 0),(6,.int .i64 (k:Int)),(7,.ptr (H.nx+1+1) 0),(8,.int .i64 (j:Int))])
      (fun j=>((H.push (.cells [.bool false,.slice .nil 1 []])).push (.cells [.bool (decide ((n:Int)<0)),.slice .any 1 (cU (cO ((n:Int)).natAbs))])).push (.cells [.bool (decide (((n*j:Nat):Int)<0)),.slice .any 1 (cU (cO (((n*j:Nat):Int)).natAbs))]))
      (fun j=>j≤16) (fun j=>16-j) 0 Xa ?_ fun j hj=>?_
     ·exact Z13
     have hnj:n*j<2^133:=by
      have:n*j≤n*16:=Nat.mul_le_mul_left n Xa
      omega
     have hsj:fE ((n*j:Nat):Int):=fA 60 Xs Xc
     have hsn:fE (n:Int):=fA 60 Xs Xc
     refine T33 ?_
     refine aq (fun h4=>?_) (fun h4=>?_)
     ·have h4':j<16:=by simp at h4;omega
      have ej:IntKind.i64.wrap ((j:Int)+1)=((j+1:Nat):Int):=Xe
      have en:((n*j:Nat):Int)+(n:Int)=((n*(j+1):Nat):Int):=by rw[Nat.mul_add];omega
      simp only[go_sem,byq,jO]
      refine⟨((n*j:Nat):Int),(n:Int),⟨rfl,rfl,hsj,hsn⟩,?_⟩
      simp only[go_sem,byq,zAV,en,ej]
      refine⟨j+1,Xa,Xa,?_⟩
      exact Z1
     ·have h4':j=16:=by simp at h4;omega
      subst h4'
      have en:((n*16:Nat):Int)+((dg c:Nat):Int)=((n*16+dg c:Nat):Int):=Xa
      have hsd:fE ((dg c:Nat):Int):=fA 10 Xs Xc
      have hsf:fE ((n*16+dg c:Nat):Int):=fA 60 Xs Xc
      obtain⟨z,hz2⟩:∃ z:Int,z=((n*16+dg c:Nat):Int):=⟨_,rfl⟩
      rw[← hz2]at en hsf
      obtain⟨y,hy⟩:∃ y:Int,y=((dg c:Nat):Int):=⟨_,rfl⟩
      simp only[go_sem,byq,jO,lB,gu,hg]
      refine⟨Xa,c,rfl,?_⟩
      simp only[go_sem,byq,gu,jO]
      refine⟨Xa,((n*16:Nat):Int),((dg c:Nat):Int),⟨rfl,rfl,hsj,hsd⟩,?_⟩
      refine l6 (a:=n*16+dg c) (b:=2^128) (fun hf=>?_) (fun hf=>?_)
      ·rw[if_pos hf]at hl2
       have hft:decide (0≤z∧z<2^128)=true:=dtq Xa
       simp only[go_sem,byq,zAV,en,m9]
       refine⟨z,⟨rfl,hsf⟩,?_⟩
       simp only[go_sem,byq,zau,hft,e5]
       exact V174
      ·rw[if_neg (Nat.not_lt.2 hf)]at hl2
       have hft:decide (0≤z∧z<2^128)=false:=dfq Xa
       simp only[go_sem,byq,zAV,en,m9]
       refine⟨z,⟨rfl,hsf⟩,?_⟩
       simp only[go_sem,byq,zat,hft,gu,jC,hl2,if_neg hbn,sM]
       exact V32
   ·have h2':k=b.length:=by simp at h2;omega
    subst h2'
    rw[List.drop_length]at hl2
    simp only[fO]at hl2
    refine T33 ?_
    by_cases hbn:b=[]
    ·subst hbn
     have hn0:n=0:=by simp only[fO]at hl2;exact(Option.some.inj hl2).symm
     subst hn0
     have hb0:(([]:List UInt8)==[])=true:=rfl
     simp only[go_sem,byq,if_pos,sM,jC,hb0]
     exact Z14
    ·have hb0:(b==[])=false:=by simp[hbn]
     simp only[go_sem,byq,if_neg hbn,sM,hl2,zAV,hb0]
     exact Z0
  ·have hr:lit s=if s=[]then none else fO 10 0 s:=J6 fun h=>by
    have:j7 s [48,120]=false:=by unfold j7;simpa using h0
    rw[this]at h;exact absurd h.2 Xb
   exact V1
 ·have hr:lit s=if s=[]then none else fO 10 0 s:=J6 fun h=>by
   have:¬ 2<s.length:=by simp at h1;omega
   exact this h.1
  exact V1
end Go.AL
open Go Go.AL Go.Proofs
namespace Go.AL
theorem Nx:ti Tryz.prog 218=some ⟨.struct [(0,3,false),(1,9,false),(2,3,false)],3,32,.agg [.int .i64 0,.str [],.int .i64 0]⟩:=krf
theorem OK:ti Tryz.prog 267=some ⟨.struct [(0,3,false),(1,9,false),(2,3,false)],3,32,.agg [.int .i64 0,.str [],.int .i64 0]⟩:=krf
theorem LB:tSl Tryz.prog 177 218:=kSl
theorem Kj:tSl Tryz.prog 240 267:=kSl
theorem Je:ti Tryz.prog 51=some ⟨.int .i64,1,8,.int .i64 0⟩:=krf
attribute [go_sem] Nx OK LB Kj Je
theorem Gb{t:Bool}{A B:Prop}(e:t=false)(h:B):nr t A B:=bx (fun h=>by simp[e]at h) (fun _=>h)
theorem Bn{P:Program}{Ω:Tbl}{K:Conts}{t:Bool}{a b:Code}{fr:Fr}{H:AHeap}(e:t=false)(h:aw P Ω b K fr H):rE P Ω (.bool t) a b K fr H:=aq (fun h=>by simp[e]at h) (fun _=>h)
def sAV(l:List (List UInt8)):List AV:=l.map .str
theorem kI{l:List (List UInt8)}:(sAV l).length=l.length:=by simp[sAV]
theorem A0{l:List (List UInt8)}{i:Nat}(h:i<l.length):(sAV l).getD i .junk=.str (l.getD i []):=by simp[sAV,gEq,h]
theorem j6{n sz:Nat}{l:List AV}(h:∀ x∈l,AV.lt n x):AV.lt n (.slice .any sz l):=by
 exact V165
theorem df{n:Nat}{l:List (List UInt8)}:AV.lt n (.slice .any 1 (sAV l)):=j6 fun x hx=>by
 obtain⟨s,_,rfl⟩:=List.mem_map.1 hx
 simp only[znh]
theorem LD:[AV.str [38,38],.str [124,124],.str [45,62],.str [61,61],.str [33,61],.str [60,61],.str [62,61],.str [58,58],.str [40],.str [41],.str [33],.str [60],.str [62],.str [43],.str [45]]=sAV syms:=rfl
theorem i7:syms.length=15:=rfl
def BG(t:Tok):AV:=.agg [.int .i64 (t.1:Int),.str t.2.1,.int .i64 (t.2.2:Int)]
def dN(l:List Tok):List AV:=l.map BG
theorem aT{l:List Tok}:(dN l).length=l.length:=by simp[dN]
theorem KL{l:List Tok}{x:List UInt8}{k:Nat}:dN l++[.agg [.int .i64 1,.str x,.int .i64 (k:Int)]]=dN (l++[(1,x,k)]):=by simp[dN,BG]
theorem KJ{l:List Tok}{x:List UInt8}{k:Nat}:dN l++[.agg [.int .i64 2,.str x,.int .i64 (k:Int)]]=dN (l++[(2,x,k)]):=by simp[dN,BG]
theorem J9{l:List Tok}{x:List UInt8}{k:Nat}:dN l++[.agg [.int .i64 3,.str x,.int .i64 (k:Int)]]=dN (l++[(3,x,k)]):=by simp[dN,BG]
theorem ur{k1 k2:IntKind}{a c:Int}{b:List UInt8}:(∀ z,z∈[AV.agg [.int k1 a,.str b,.int k2 c]]→bG z.cells=true)=True:=eq_true fun z hz=>by
 rw[List.mem_singleton.1 hz]
 simp[ziq,zgq,zgr,zgs,zgu]
theorem bF{H Hc:AHeap}{i:Nat}{o:AObj}(h:H.Le Hc)(hi:H.nx≤i):H.Le (Hc.set i o):=⟨h.nx,fun j x hj=>by
 have:=glq hj
 rw[AHeap.get_set_ne _ _ (Xa)]
 exact h.get j x hj⟩
theorem gA:dN []=[]:=rfl
theorem Hl{n:Nat}{l:List Tok}:AV.lt n (.slice .any 3 (dN l)):=j6 fun x hx=>by
 obtain⟨s,_,rfl⟩:=List.mem_map.1 hx
 simp only[BG,znr,znu,znv,znf,znh,and_true]
theorem Lr{n:Nat}{l:List Tok}:ltL n (dN l):=ltL_iff.2 fun j hj=>by
 simp only[dN,List.getElem_map,BG,znr,znu,znv,znf,znh,and_true]
theorem qv{n id:Nat}{l:List Tok}(h:id<n):AV.lt n (.slice (.own id) 3 (dN l)):=by
 rw[aN]
 exact⟨fun i e=>by cases e;exact h,Lr⟩
def pH(s:List UInt8):AV:=.tup [.slice .any 3 (dN (cE s).1),.int .i64 ((cE s).2.1:Int),.int .i64 ((cE s).2.2:Int)]
def mM:PCt
 |[.str s,.str p],_,K=>K (.bool (j7 s p))
 |_,_,_=>False
theorem tp:EPp 143 mM:=by
 refine Ype fun _ H K h=>?_
 unfold mM at h
 split at h<;>try exact h.elim
 rename_i s p
 refine⟨_,h,?_⟩
 clear h
 refine Yfu az (tCq rK tNq) Tryz.func143 [.tmp 4] fun hcl=>?_
 simp only[go_sem,lJ]
 exact Z0
def sF:PCt
 |[],_,K=>K (.slice .any 1 (sAV syms))
 |_,_,_=>False
theorem DO:EPp 167 sF:=by
 refine Ype fun _ H K h=>?_
 unfold sF at h
 split at h<;>try exact h.elim
 refine⟨_,h,?_⟩
 clear h
 refine Yfu az tNq Tryz.func167 [.tmp 0] fun hcl=>?_
 simp only[go_sem,LD]
 simp (disch:=first|exact Zd|omega) [↓zmo,beq,ybc,ybd,ybe,af,wk,wk2,wk1,wkM,wkL,aj,ybf,hcl,df]
theorem Ap{x:List UInt8}{l:List (List UInt8)}{s:List UInt8}:xw (x::l) s=if j7 s x then x else xw l s:=by rw[xw]
def uD:PCt
 |[.str s],_,K=>K (.str (mq s))
 |_,_,_=>False
theorem Fg:EPp 144 uD:=by
 refine Ype fun _ H K h=>?_
 unfold uD at h
 split at h<;>try exact h.elim
 rename_i s
 refine⟨_,h,?_⟩
 clear h
 refine Yfu az (tCq DO (tCq tp tNq)) Tryz.func144 [.tmp 2] fun hcl=>?_
 simp only[go_sem,sF,kI]
 refine aA (A:=Nat) (fun k=>[(0,.str s),(5,.slice .any 1 (sAV syms)),(6,.int .i64 15),(7,.int .i64 (k:Int))]) (fun k=>H) (fun k=>k≤15∧mq s=xw (syms.drop k) s) (fun k=>15-k) 0 ⟨Xa,rfl⟩ ?_ fun k hk=>?_
 ·(simp only[bkq,enterW,aJ,ltF,ne_eq,Nat.reduceEqDiff,reduceCtorEq,df,i7];try simp (disch:=first|exact Zd|omega) [↓zmo,beq,ybc,ybd,ybe,af,wk,wk2,wk1,wkM,wkL,aj,ybf,byq,biq,ah,hcl,df,i7];try(repeat' (first|assumption|omega|exact True.intro|refine And.intro ?_ ?_|refine ag ?_|refine ae ?_|refine aa ?_ ?_|refine ai ?_ ?_|refine au ?_|exact lRq _|refine lPq ?_ _|refine AHeap.Le.del ?_ ?_|(simp only[bt,and_true,true_and,df,i7];first|done|omega|(simp;done)))))
 obtain⟨hk,hs⟩:=hk
 refine T9 ?_
 refine aq (fun h1=>?_) (fun h1=>?_)
 ·have hk2:k<15:=by simp at h1;omega
  have hk1:k<syms.length:=by rw[i7];exact hk2
  have hg:(sAV syms).getD k .junk=.str (syms.getD k []):=A0 hk1
  have e5:=Yk5 k
  have hgk:syms.getD k []=syms[k]:=by simp[gEq,hk1]
  rw[dcq hk1,Ap]at hs
  rw[hgk]at hg
  generalize syms[k]=x at *
  simp only[go_sem,iNq,kI,i7,hg,mM,e5]
  refine⟨Xa,aq (fun h2=>?_) (fun h2=>?_)⟩
  ·rw[if_pos h2]at hs
   simp only[go_sem,hs]
   exact Z0
  ·rw[if_neg (by simp[h2])]at hs
   refine T37 ?_
   exact V141
 ·exact V136
def ri:PCt
 |[x],_,K=>∃ c,x=cq c∧K (.bool (eI c))
 |_,_,_=>False
theorem xd:EPp 146 ri:=by
 refine Ype fun _ H K h=>?_
 unfold ri at h
 split at h<;>try exact h.elim
 obtain⟨c,rfl,hK⟩:=h
 refine⟨_,hK,?_⟩
 clear hK
 refine Yfu az tNq Tryz.func146 [.tmp 2] fun hcl=>?_
 simp only[go_sem,cq]
 refine bx (fun h1=>?_) (fun h1=>?_)
 ·have e:eI c=decide ((c.toNat:Int)≤122):=by unfold eI;rw[Bool.eq_iff_iff];simp at h1 ⊢;omega
  exact V75
 ·have e:eI c=false:=by unfold eI;rw[Bool.eq_iff_iff];simp at h1 ⊢;omega
  exact V75
def BS:PCt
 |[x],_,K=>∃ c,x=cq c∧K (.bool (eC c))
 |_,_,_=>False
theorem MD:EPp 168 BS:=by
 refine Ype fun _ H K h=>?_
 unfold BS at h
 split at h<;>try exact h.elim
 obtain⟨c,rfl,hK⟩:=h
 refine⟨_,hK,?_⟩
 clear hK
 refine Yfu az (tCq xd tNq) Tryz.func168 [.tmp 2] fun hcl=>?_
 simp only[go_sem,ri]
 refine⟨c,rfl,?_⟩
 simp only[go_sem,cq]
 have e95:(((c.toNat:Nat):Int)==95)=(c==95):=by rw[Bool.eq_iff_iff];simp[← UInt8.toNat_inj];omega
 rw[e95]
 refine bx (fun h1=>?_) (fun h1=>?_)
 ·have e:eC c=true:=by unfold eC;rw[h1];rfl
  exact V75
 ·refine bx (fun h2=>?_) (fun h2=>?_)
  ·have h2':48≤c.toNat:=by simp at h2;omega
   refine bx (fun h3=>?_) (fun h3=>?_)
   ·have h3':c.toNat≤57:=by simp at h3;omega
    have e:eC c=true:=by unfold eC;rw[dtq h2',dtq h3'];simp
    exact V75
   ·have h3':¬ c.toNat≤57:=by simp at h3;omega
    have e:eC c=(c==95):=by unfold eC;rw[dfq h3',h1];simp
    exact V75
  ·have h2':¬ 48≤c.toNat:=by simp at h2;omega
   have e:eC c=(c==95):=by unfold eC;rw[dfq h2',h1];simp
   exact V75
theorem qf{s:List UInt8}{k:Nat}(h:k<s.length):ep (s.drop k)=if eC (s.getD k 0)then s.getD k 0::ep (s.drop (k+1))else []:=by
 have e:s.getD k 0=s[k]:=by simp[gEq,h]
 rw[e,dcq h]
 unfold ep
 by_cases hp:eC s[k]=true
 ·rw[if_pos hp,List.takeWhile_cons_of_pos hp]
 ·rw[if_neg hp,List.takeWhile_cons_of_neg hp]
theorem z8{s:List UInt8}{k:Nat}(h:k<s.length)(hp:eC (s.getD k 0)=true)(hw:ep s=s.take k++ep (s.drop k)):ep s=s.take (k+1)++ep (s.drop (k+1)):=by
 have e:s.getD k 0=s[k]:=by simp[gEq,h]
 rw[qf h,if_pos hp,e]at hw
 rw[hw,List.take_succ_eq_append_getElem h,List.append_assoc];rfl
theorem v6{s:List UInt8}{k:Nat}(h:k<s.length)(hp:eC (s.getD k 0)=false)(hw:ep s=s.take k++ep (s.drop k)):ep s=s.take k:=by
 rw[qf h,if_neg (by rw[hp];decide),yaj]at hw
 exact hw
theorem yR{s:List UInt8}{k:Nat}(h:¬ k<s.length)(hw:ep s=s.take k++ep (s.drop k)):ep s=s.take k:=by
 rw[ybf (Xa)]at hw
 simpa[ep]using hw
def Co:PCt
 |[.str s],_,K=>s.length≤140737488355328∧K (.str (ep s))
 |_,_,_=>False
theorem Kk:EPp 145 Co:=by
 refine Ype fun _ H K h=>?_
 unfold Co at h
 split at h<;>try exact h.elim
 rename_i s
 obtain⟨hsl,hK⟩:=h
 refine⟨_,hK,?_⟩
 clear hK
 refine Yfu az (tCq MD tNq) Tryz.func145 [.tmp 2] fun hcl=>?_
 refine T9 ?_
 refine aA (A:=Nat) (fun k=>[(0,.str s),(3,.int .i64 (k:Int))]) (fun k=>H) (fun k=>k≤s.length∧ep s=s.take k++ep (s.drop k)) (fun k=>s.length-k) 0 ⟨Xa,Xb⟩ ?_ fun k hk=>?_
 ·exact Z1
 obtain⟨hk,hs⟩:=hk
 refine T9 ?_
 refine bx (fun h1=>?_) (fun h1=>?_)
 ·have hk1:k<s.length:=by simp at h1;omega
  have e5:=Yk5 k
  simp only[go_sem,BS,iNq]
  refine⟨Xa,s.getD k 0,rfl,?_⟩
  refine aq (fun h2=>?_) (fun h2=>?_)
  ·exact V154
  ·have hw:=v6 hk1 h2 hs
   simp only[go_sem,iNq,hw]
   exact V32
 ·have hk1:¬ k<s.length:=by simp at h1;omega
  have hw:=yR hk1 hs
  try simp only[go_sem,iNq,hw,zau]
  exact V32
def wz:PCt
 |[.str s],_,K=>s.length≤140737488355328∧K (pH s)
 |_,_,_=>False
theorem uk{s:List UInt8}{k:Nat}{x:List UInt8}{kd:Nat}(h:k<s.length)(h3:og (s.drop k)=some (kd,x)):x≠[]∧k+x.length≤s.length:=by
 obtain⟨g1,g2,_⟩:=od h3
 rw[List.length_drop]at g2
 exact⟨g1,Xa⟩
theorem Ac{s:List UInt8}{l:List Tok}(h:¬ 400<s.length)(e:rest s 0=(l,none)):cE s=(l,0,0):=by unfold cE;rw[if_neg h,e]
theorem n9{s:List UInt8}{l:List Tok}{k:Nat}(h:¬ 400<s.length)(e:rest s 0=(l,some k)):cE s=([],k,10):=by unfold cE;rw[if_neg h,e]
theorem As{s:List UInt8}(h:ep s=[])(h2:mq s=[]):og s=none:=by unfold og;rw[h,h2]
theorem CI{s y:List UInt8}(h:ep s=[])(h2:mq s=y)(hy:y≠[]):og s=some (3,y):=by
 unfold og;rw[h,h2];cases y with
 |nil=>exact absurd rfl hy
 |cons a b=>rfl
theorem Ds{s w:List UInt8}{c:UInt8}(h:ep s=c::w)(h2:eI c=true):og s=some (2,c::w):=by unfold og;rw[h];dsimp only;rw[if_pos h2]
theorem C9{s w:List UInt8}{c:UInt8}{n:Nat}(h:ep s=c::w)(h2:eI c=false)(h3:lit (c::w)=some n):og s=some (1,c::w):=by
 unfold og;rw[h];dsimp only;rw[if_neg (by rw[h2];decide),h3];rfl
theorem w7{s w:List UInt8}{c:UInt8}(h:ep s=c::w)(h2:eI c=false)(h3:lit (c::w)=none):og s=none:=by
 unfold og;rw[h];dsimp only;rw[if_neg (by rw[h2];decide),h3];rfl
theorem qV{s:List UInt8}{pre:List Tok}{k kd id:Nat}{x:List UInt8}{H Hd:AHeap}{fr:Fr}(hk:k<s.length)(hc:s[k]≠32)(ht:og (s.drop k)=some (kd,x))(hpl:pre.length≤k)
 (hr:rest s 0=(pre++(rest s k).1,(rest s k).2)) (hle:H.Le Hd) (hcd:Hd.Closed) (hid:H.nx≤id) (hg:Hd.get id=some (.buf 3 (pre.length+1)))
 (f0:Fr.get fr 0=.str s) (f5:Fr.get fr 5=.slice (.own id) 3 (dN (pre++[(kd,x,k)]))) (f6:Fr.get fr 6=.int .i64 ((k+x.length:Nat):Int)) :
 ∃ a':Nat × List Tok × Nat × AHeap,((a'.1≤s.length∧a'.2.1.length≤a'.1∧rest s 0=(a'.2.1++(rest s a'.1).1,(rest s a'.1).2))∧H.Le a'.2.2.2∧a'.2.2.2.Closed∧H.nx≤a'.2.2.1∧a'.2.2.2.get a'.2.2.1=some (.buf 3 a'.2.1.length)) ∧
  s.length-a'.1<s.length-k∧enterW H.nx fr Hd [(0,.str s),(5,.slice (.own a'.2.2.1) 3 (dN a'.2.1)),(6,.int .i64 (a'.1:Int))] a'.2.2.2:=by
 obtain⟨hy1,hy2⟩:=uk hk ht
 have hyl:0<x.length:=List.length_pos_iff.2 hy1
 have hid2:id<Hd.nx:=glq hg
 refine⟨(k+x.length,pre++[(kd,x,k)],id,Hd),⟨⟨hy2,?_,?_⟩,hle,hcd,hid,?_⟩,?_,hle.nx,lRq _,hcd,?_,?_⟩
 ·simp;omega
 ·rw[hr,J3 hk hc ht,List.append_assoc];rfl
 ·rw[hg];simp
 ·dsimp only;omega
 ·simp only[ltF,znh,znf,true_and,and_true]
  exact qv hid2
 ·simp[aJ,wk2,wk1,wkM,f0,f5,f6]
theorem zM{s:List UInt8}{k:Nat}(h:k<s.length):j7 (s.drop k) [32]=(s[k]==32):=by
 unfold j7
 rw[dcq h]
 generalize s.drop (k+1)=r
 rw[Bool.eq_iff_iff,beq_iff_eq,beq_iff_eq]
 show [s[k]]=[32]↔_
 simp
theorem Ng:EPp 114 wz:=by
 refine Ype fun _ H K h=>?_
 unfold wz at h
 split at h<;>try exact h.elim
 rename_i s
 obtain⟨hsl,hK⟩:=h
 refine⟨_,hK,?_⟩
 clear hK
 refine Yfu az (tCq tp (tCq Fg (tCq Kk (tCq xd (tCq v5 tNq))))) Tryz.func114 [.tmp 2,.tmp 3,.tmp 4] fun hcl=>?_
 simp only[go_sem,pH]
 refine aq (fun h1=>?_) (fun h1=>?_)
 ·exact V126
 have h1':¬ 400<s.length:=by simp at h1;omega
 refine T9 ?_
 refine aA (A:=Nat × List Tok × Nat × AHeap) (fun a=>[(0,.str s),(5,.slice (.own a.2.2.1) 3 (dN a.2.1)),(6,.int .i64 (a.1:Int))]) (fun a=>a.2.2.2)
  (fun a=>(a.1≤s.length∧a.2.1.length≤a.1∧rest s 0=(a.2.1++(rest s a.1).1,(rest s a.1).2))∧H.Le a.2.2.2∧a.2.2.2.Closed∧H.nx≤a.2.2.1∧a.2.2.2.get a.2.2.1=some (.buf 3 a.2.1.length))
  (fun a=>s.length-a.1) (0,[],H.nx+1,(H.push (.buf 3 0)).push (.buf 3 0)) ⟨⟨Xa,Xb,Xb⟩,?_,?_,Xb,?_⟩ ?_ fun a ha=>?_
 ·exact Z0
 ·(repeat' (first|assumption|omega|exact True.intro|refine And.intro ?_ ?_|refine ag ?_|refine ae ?_|refine aa ?_ ?_|refine ai ?_ ?_|refine au ?_|exact lRq _|refine lPq ?_ _|refine AHeap.Le.del ?_ ?_|(simp only[bt,and_true,true_and];first|done|omega|(simp;done))))
 ·exact V131
 ·exact Z17
 obtain⟨k,pre,id,Hc⟩:=a
 obtain⟨⟨hk,hpl,hr⟩,hle,hcc,hid,hst⟩:=ha
 dsimp only at hk hpl hr hle hcc hid hst ⊢
 have hnx:H.nx≤Hc.nx:=hle.nx
 have hid2:id<Hc.nx:=glq hst
 refine T9 ?_
 refine aq (fun h2=>?_) (fun h2=>?_)
 ·have hk1:k<s.length:=by simp at h2;omega
  have e5:=Yk5 k
  simp only[go_sem,mM,iNq,List.take_length]
  refine⟨Xa,aq (fun h3=>?_) (fun h3=>?_)⟩
  ·have hc:s[k]=32:=by rw[zM hk1]at h3;simpa using h3
   exact V24
  have n1:(id=Hc.nx)=False:=eFo
  have n2:(id=Hc.nx+1)=False:=eFo
  have n3:(id=Hc.nx+1+1)=False:=eFo
  have hc:s[k]≠32:=by rw[zM hk1]at h3;simpa using h3
  have hsd:(s.drop k).length≤400:=Xt
  simp only[go_sem,uD,Co]
  refine⟨Xa,?_⟩
  cases hw:ep (s.drop k)with
  |nil =>
   have en:(([]:List UInt8) !=[])=false:=rfl
   rcases Classical.em (mq (s.drop k)=[])with hy|hy
   ·have htk:=As hw hy
    rw[p9 hk1 hc htk,yaj]at hr
    have hsc:=n9 h1' hr
    have eb:(([]:List UInt8)==[])=true:=rfl
    simp only[go_sem,hsc,hy,en,eb,zau,zat,gA]
    exact V73
   ·have htk:=CI hw rfl hy
    have eb:(mq (s.drop k)==[])=false:=by simpa using hy
    have eb0:(([]:List UInt8)==[])=true:=rfl
    obtain⟨hy1,hy2⟩:=uk hk1 htk
    generalize mq (s.drop k)=y at *
    have e6:IntKind.i64.wrap ((k:Int)+(y.length:Int))=((k+y.length:Nat):Int):=Xe
    simp only[go_sem,en,eb,eb0,zau,zat,n1,n2,hst,aT,J9,e6,ur]
    refine⟨Xa,qV hk1 hc htk hpl hr (((bF hle hid).push _).push _) ?_ hid ?_ rfl rfl rfl⟩
    ·exact V123
    ·exact V42
  |cons c w =>
   have en:((c::w) !=[])=true:=rfl
   have eb:((c::w)==[])=false:=rfl
   simp only[go_sem,en,eb,zat,ri]
   refine⟨Xa,c,rfl,?_⟩
   cases hlc:eI c with
   |true=>
    have htk:=Ds hw hlc
    obtain⟨_,hy2⟩:=uk hk1 htk
    have e6:IntKind.i64.wrap ((k:Int)+((w.length+1:Nat):Int))=((k+(c::w).length:Nat):Int):=by
     exact V171
    simp only[go_sem,en,eb,zau,zat,n1,n2,hst,aT,KJ,e6,ur]
    refine⟨Xa,qV hk1 hc htk hpl hr (((bF hle hid).push _).push _) ?_ hid ?_ rfl rfl rfl⟩
    ·exact V123
    ·exact V42
   |_=>
    have hcw:(c::w).length≤400:=by rw[← hw];exact Nat.le_trans (List.takeWhile_sublist _).length_le hsd
    simp only[go_sem,en,eb,zau,zat,oO]
    cases hli:lit (c::w)with
    |none =>
     have htk:=w7 hw hlc hli
     rw[p9 hk1 hc htk,yaj]at hr
     have hsc:=n9 h1' hr
     simp only[go_sem,hsc,ww,nAV,zau,zat,gA]
     refine⟨by simp only[yaz]at hcw;omega,?_⟩
     exact V120
    |some n =>
     have htk:=C9 hw hlc hli
     obtain⟨_,hy2⟩:=uk hk1 htk
     have e6:IntKind.i64.wrap ((k:Int)+((w.length+1:Nat):Int))=((k+(c::w).length:Nat):Int):=by
      exact V171
     simp only[go_sem,ww,nAV,zau,zat,n1,n2,n3,eb,hst,aT,KL,e6,ur]
     refine⟨by simp only[yaz]at hcw;omega,Xa,qV hk1 hc htk hpl hr ((((bF hle hid).push _).push _).push _) ?_ hid ?_ rfl rfl rfl⟩
     ·exact ag (aa (aa (ae hcc) (by simp[znu,znv,znf,znh])) (by simp[znu,znv,znf,znh]))
     ·exact V84
 ·exact V132
end Go.AL
open Go Go.AL Go.Proofs
namespace Go.AL
def Cf:PCt
 |[x],_,K=>∃ c,x=cq c∧K (.bool (eC c))
 |_,_,_=>False
theorem J4:EPp 201 Cf:=by
 refine Ype fun _ H K h=>?_
 unfold Cf at h
 split at h<;>try exact h.elim
 obtain⟨c,rfl,hK⟩:=h
 refine⟨_,hK,?_⟩
 clear hK
 refine Yfu az tNq Tryz.func201 [.tmp 2] fun hcl=>?_
 simp only[go_sem,cq]
 have e95:(((c.toNat:Nat):Int)==95)=(c==95):=by rw[Bool.eq_iff_iff];simp[← UInt8.toNat_inj];omega
 rw[e95]
 have fin:∀{t:Bool},eC c=t→af H (AV.bool t) H (AV.bool (eC c)):=fun e=>by
  rw[e]
  exact Z0
 have tl:eI c=false→nr (decide ((c.toNat:Int) ≥ 48)) (nr (decide ((c.toNat:Int)≤57)) (af H (AV.bool true) H (AV.bool (eC c))) (af H (AV.bool (c==95)) H (AV.bool (eC c)))) (af H (AV.bool (c==95)) H (AV.bool (eC c))):=fun h1=>by
  refine bx (fun h2=>?_) (fun h2=>?_)
  ·have h2':48≤c.toNat:=by simp at h2;omega
   refine bx (fun h3=>?_) (fun h3=>?_)
   ·have h3':c.toNat≤57:=by simp at h3;omega
    exact fin (by unfold eC;rw[dtq h2',dtq h3'];simp)
   ·have h3':¬ c.toNat≤57:=by simp at h3;omega
    exact fin (by unfold eC;rw[dfq h3',h1];simp)
  ·have h2':¬ 48≤c.toNat:=by simp at h2;omega
   exact fin (by unfold eC;rw[dfq h2',h1];simp)
 refine bx (fun h1=>bx (fun h2=>?_) (fun h2=>tl ?_)) (fun h1=>tl ?_)
 ·exact fin (by unfold eC eI;simp at h1 h2;rw[dtq (by omega),dtq (by omega)];simp)
 ·unfold eI;simp at h2;rw[dfq (p:=c.toNat≤122) (Xa)];simp
 ·unfold eI;simp at h1;rw[dfq (p:=97≤c.toNat) (Xa)];simp
def Ce:PCt
 |[.str s],_,K=>s.length≤140737488355328∧K (.int .i64 ((ep s).length:Int))
 |_,_,_=>False
theorem KM:EPp 185 Ce:=by
 refine Ype fun _ H K h=>?_
 unfold Ce at h
 split at h<;>try exact h.elim
 rename_i s
 obtain⟨hsl,hK⟩:=h
 refine⟨_,hK,?_⟩
 clear hK
 refine Yfu az (tCq J4 tNq) Tryz.func185 [.tmp 2] fun hcl=>?_
 refine T9 ?_
 refine aA (A:=Nat) (fun k=>[(0,.str s),(3,.int .i64 (k:Int))]) (fun k=>H) (fun k=>k≤s.length∧ep s=s.take k++ep (s.drop k)) (fun k=>s.length-k) 0 ⟨Xa,Xb⟩ ?_ fun k hk=>?_
 ·exact Z1
 obtain⟨hk,hs⟩:=hk
 have hmin:(s.take k).length=k:=by rw[List.length_take];omega
 refine T9 ?_
 refine bx (fun h1=>?_) (fun h1=>?_)
 ·have hk1:k<s.length:=by simp at h1;omega
  have e5:=Yk5 k
  simp only[go_sem,Cf,iNq]
  refine⟨Xa,s.getD k 0,rfl,?_⟩
  refine aq (fun h2=>?_) (fun h2=>?_)
  ·exact V154
  ·have hw:=v6 hk1 h2 hs
   simp only[go_sem,iNq,hw,hmin]
   exact Z0
 ·have hk1:¬ k<s.length:=by simp at h1;omega
  have hw:=yR hk1 hs
  try simp only[go_sem,iNq,hw,hmin,zau]
  exact Z0
theorem sf{s p:List UInt8}:j7 s p=(decide (p.length≤s.length)&&(s.take p.length==p)):=by
 unfold j7
 rw[Bool.eq_iff_iff]
 simp
 intro h
 have:=congrArg List.length h
 rw[List.length_take]at this
 omega
def uA:PCt
 |[.str s],_,K=>K (.int .i64 ((mq s).length:Int))
 |_,_,_=>False
theorem Fu:EPp 184 uA:=by
 refine Ype fun _ H K h=>?_
 unfold uA at h
 split at h<;>try exact h.elim
 rename_i s
 refine⟨_,h,?_⟩
 clear h
 refine Yfu az tNq Tryz.func184 [.tmp 2] fun hcl=>?_
 simp only[go_sem,LD,kI]
 refine aA (A:=Nat) (fun k=>[(0,.str s),(5,.slice .any 1 (sAV syms)),(6,.int .i64 15),(7,.int .i64 (k:Int))]) (fun k=>H) (fun k=>k≤15∧mq s=xw (syms.drop k) s) (fun k=>15-k) 0 ⟨Xa,rfl⟩ ?_ fun k hk=>?_
 ·(simp only[bkq,enterW,aJ,ltF,ne_eq,Nat.reduceEqDiff,reduceCtorEq,df,i7];try simp (disch:=first|exact Zd|omega) [↓zmo,beq,ybc,ybd,ybe,af,wk,wk2,wk1,wkM,wkL,aj,ybf,byq,biq,ah,hcl,df,i7];try(repeat' (first|assumption|omega|exact True.intro|refine And.intro ?_ ?_|refine ag ?_|refine ae ?_|refine aa ?_ ?_|refine ai ?_ ?_|refine au ?_|exact lRq _|refine lPq ?_ _|refine AHeap.Le.del ?_ ?_|(simp only[bt,and_true,true_and,df,i7];first|done|omega|(simp;done)))))
  trace_state
 obtain⟨hk,hs⟩:=hk
 refine T9 ?_
 refine aq (fun h1=>?_) (fun h1=>?_)
 ·have hk2:k<15:=by simp at h1;omega
  have hk1:k<syms.length:=by rw[i7];exact hk2
  have hg:(sAV syms).getD k .junk=.str (syms.getD k []):=A0 hk1
  have e5:=Yk5 k
  have hgk:syms.getD k []=syms[k]:=by simp[gEq,hk1]
  rw[dcq hk1,Ap]at hs
  rw[hgk]at hg
  generalize syms[k]=x at *
  simp only[go_sem,iNq,kI,i7,hg,e5]
  refine⟨Xa,?_⟩
  refine bx (fun h2=>?_) (fun h2=>?_)
  ·have h2':x.length≤s.length:=by simp at h2;omega
   refine⟨Xa,aq (fun h3=>?_) (fun h3=>?_)⟩
   ·rw[if_pos (by rw[sf,dtq h2'];simpa using h3)]at hs
    simp only[go_sem,hs]
    exact Z0
   ·rw[if_neg (by rw[sf,dtq h2'];simpa using h3)]at hs
    refine T37 ?_
    exact V141
  ·have h2':¬ x.length≤s.length:=by simp at h2;omega
   rw[if_neg (by rw[sf,dfq h2'];simp)]at hs
   try simp only[go_sem,e5,zau]
   exact V141
 ·exact V136
def wO:PCt
 |[.str s],_,K=>s.length≤140737488355328∧K (pH s)
 |_,_,_=>False
theorem zh{s:List UInt8}{k kd:Nat}{x:List UInt8}(h:og (s.drop k)=some (kd,x)):(s.take (k+x.length)).drop k=x:=by
 rw[List.drop_take,Nat.add_sub_cancel_left]
 exact(od h).2.2
theorem QV{w:List UInt8}:lit (95::w)=none:=by
 unfold lit
 rw[if_neg (by simp[j7]),if_neg (Xb)]
 rfl
theorem IE{s w:List UInt8}{c:UInt8}{k:Nat}(h:k<s.length)(hw:ep (s.drop k)=c::w):s[k]=c∧eC c=true:=by
 have e:s.getD k 0=s[k]:=by simp[gEq,h]
 rw[qf h]at hw
 split at hw
 ·rename_i hp
  rw[e]at hw hp
  injection hw with h1 h2
  subst h1
  exact⟨rfl,hp⟩
 ·cases hw
theorem MO:EPp 162 wO:=by
 refine Ype fun _ H K h=>?_
 unfold wO at h
 split at h<;>try exact h.elim
 rename_i s
 obtain⟨hsl,hK⟩:=h
 refine⟨_,hK,?_⟩
 clear hK
 refine Yfu az (tCq Fu (tCq KM (tCq Cy tNq))) Tryz.func162 [.tmp 2,.tmp 3,.tmp 4] fun hcl=>?_
 simp only[go_sem,pH]
 refine aq (fun h1=>?_) (fun h1=>?_)
 ·exact V126
 have h1':¬ 400<s.length:=by simp at h1;omega
 refine T9 ?_
 refine aA (A:=Nat × List Tok × Nat × AHeap) (fun a=>[(0,.str s),(5,.slice (.own a.2.2.1) 3 (dN a.2.1)),(6,.int .i64 (a.1:Int))]) (fun a=>a.2.2.2)
  (fun a=>(a.1≤s.length∧a.2.1.length≤a.1∧rest s 0=(a.2.1++(rest s a.1).1,(rest s a.1).2))∧H.Le a.2.2.2∧a.2.2.2.Closed∧H.nx≤a.2.2.1∧a.2.2.2.get a.2.2.1=some (.buf 3 a.2.1.length))
  (fun a=>s.length-a.1) (0,[],H.nx+1,(H.push (.buf 3 0)).push (.buf 3 0)) ⟨⟨Xa,Xb,Xb⟩,?_,?_,Xb,?_⟩ ?_ fun a ha=>?_
 ·exact Z0
 ·(repeat' (first|assumption|omega|exact True.intro|refine And.intro ?_ ?_|refine ag ?_|refine ae ?_|refine aa ?_ ?_|refine ai ?_ ?_|refine au ?_|exact lRq _|refine lPq ?_ _|refine AHeap.Le.del ?_ ?_|(simp only[bt,and_true,true_and];first|done|omega|(simp;done))))
 ·exact V131
 ·exact Z17
 obtain⟨k,pre,id,Hc⟩:=a
 obtain⟨⟨hk,hpl,hr⟩,hle,hcc,hid,hst⟩:=ha
 dsimp only at hk hpl hr hle hcc hid hst ⊢
 have hnx:H.nx≤Hc.nx:=hle.nx
 have hid2:id<Hc.nx:=glq hst
 refine T9 ?_
 refine aq (fun h2=>?_) (fun h2=>?_)
 ·have hk1:k<s.length:=by simp at h2;omega
  have e5:=Yk5 k
  have hsg:s.getD k 0=s[k]:=by simp[gEq,hk1]
  simp only[go_sem,iNq,List.take_length,hsg]
  refine⟨Xa,aq (fun h3=>?_) (fun h3=>?_)⟩
  ·have hc:s[k]=32:=by simp at h3;rw[← UInt8.toNat_inj];simp;omega
   exact V24
  have n1:(id=Hc.nx)=False:=eFo
  have n2:(id=Hc.nx+1)=False:=eFo
  have n3:(id=Hc.nx+1+1)=False:=eFo
  have hc:s[k]≠32:=fun e=>by rw[e]at h3;simp at h3
  have hsd:(s.drop k).length≤400:=Xt
  simp only[go_sem,uA,Ce,List.take_length,iNq]
  refine⟨Xa,Xa,Xa,?_⟩
  cases hw:ep (s.drop k)with
  |nil =>
   refine aq (fun h4=>by simp at h4) (fun _=>?_)
   refine T9 ?_
   refine aq (fun h5=>?_) (fun h5=>?_)
   ·have hy:mq (s.drop k)=[]:=by simp at h5;exact h5
    have htk:=As hw hy
    rw[p9 hk1 hc htk,yaj]at hr
    have hsc:=n9 h1' hr
    simp only[go_sem,hsc,hy,gA]
    exact V73
   ·have hy:mq (s.drop k)≠[]:=by intro e;rw[e]at h5;simp at h5
    have htk:=CI hw rfl hy
    obtain⟨hy1,hy2⟩:=uk hk1 htk
    have hx:=zh htk
    generalize mq (s.drop k)=y at *
    have e6:IntKind.i64.wrap ((k:Int)+(y.length:Int))=((k+y.length:Nat):Int):=Xe
    simp only[go_sem,iNq,n1,n2,hst,hx,aT,J9,e6,ur]
    refine⟨Xa,Xa,qV hk1 hc htk hpl hr (((bF hle hid).push _).push _) ?_ hid ?_ rfl rfl rfl⟩
    ·exact V123
    ·exact V42
  |cons c w =>
   obtain⟨hsc0,hpt⟩:=IE hk1 hw
   have hcw:(c::w).length≤400:=by rw[← hw];exact Nat.le_trans (List.takeWhile_sublist _).length_le hsd
   have hx:(s.take (k+(w.length+1))).drop k=c::w:=by
    rw[show w.length+1=(c::w).length from rfl,List.drop_take,Nat.add_sub_cancel_left,← hw];exact l4 _
   have hy2:k+(c::w).length≤s.length:=by
    have:=(List.takeWhile_sublist (p:=eC) (l:=s.drop k)).length_le
    rw[show(s.drop k).takeWhile eC=c::w from hw,List.length_drop]at this
    simp only[yaz]at this ⊢;omega
   have e6:IntKind.i64.wrap ((k:Int)+((w.length+1:Nat):Int))=((k+(c::w).length:Nat):Int):=by
    exact V171
   refine aq (fun _=>?_) (fun h4=>by simp at h4)
   simp only[go_sem,iNq,hsg,hsc0]
   refine⟨Xa,aq (fun h5=>?_) (fun h5=>?_)⟩
   ·have hc95:c=95:=by simp at h5;rw[← UInt8.toNat_inj];simp;omega
    subst hc95
    have htk:=w7 hw Xc QV
    rw[p9 hk1 hc htk,yaj]at hr
    have hsc:=n9 h1' hr
    simp only[go_sem,hsc,gA]
    exact V73
   have hc95:c≠95:=fun e=>by rw[e]at h5;simp at h5
   simp only[go_sem,iNq,hsg,hsc0]
   refine⟨Xa,aq (fun h6=>?_) (fun h6=>?_)⟩
   ·have hlc:eI c=false:=by unfold eI;simp at h6;rw[dfq (p:=97≤c.toNat) (by omega)];simp
    simp only[go_sem,iNq,sD,e6,hx]
    cases hli:lit (c::w)with
    |none =>
     have htk:=w7 hw hlc hli
     rw[p9 hk1 hc htk,yaj]at hr
     have hsc:=n9 h1' hr
     simp only[go_sem,hsc,sM,zAV,zau,zat,gA]
     refine⟨by simp only[yaz]at hy2;omega,by simp only[yaz]at hcw;omega,?_⟩
     exact V120
    |some n =>
     have htk:=C9 hw hlc hli
     simp only[go_sem,sM,zAV,zau,zat]
     refine⟨by simp only[yaz]at hy2;omega,by simp only[yaz]at hcw;omega,aq (fun h7=>by simp at h7;omega) (fun _=>?_)⟩
     simp only[go_sem,iNq,n1,n2,n3,hst,hx,aT,KL,e6,ur]
     refine⟨by simp only[yaz]at hy2;omega,Xa,qV hk1 hc htk hpl hr ((((bF hle hid).push _).push _).push _) ?_ hid ?_ rfl rfl rfl⟩
     ·exact ag (aa (aa (ae hcc) (by simp[znu,znv,znf,znh])) (by simp[znu,znv,zng,zmm]))
     ·exact V84
   ·have hlc:eI c=true:=by
     unfold eC at hpt
     simp at h6
     rw[dfq (p:=c.toNat≤57) Xa,beq_eq_false_iff_ne.2 hc95]at hpt
     simpa using hpt
    have htk:=Ds hw hlc
    simp only[go_sem,iNq]
    refine aq (fun h7=>by simp at h7;omega) (fun _=>?_)
    simp only[go_sem,iNq,n1,n2,hst,hx,aT,KJ,e6,ur]
    refine⟨by simp only[yaz]at hy2;omega,Xa,qV hk1 hc htk hpl hr (((bF hle hid).push _).push _) ?_ hid ?_ rfl rfl rfl⟩
    ·exact V123
    ·exact V42
 ·exact V132
end Go.AL
open Go Go.AL Go.Proofs
namespace Go.AL
theorem KO:ti Tryz.prog 76=some ⟨.struct [(0,22,false),(1,3,false)],2,32,.agg [.slice .nil 1 [],.int .i64 0]⟩:=krf
attribute [go_sem] KO
theorem mod_lt{x n:Int}(hn:1≤n):0≤(x.tmod n+n).tmod n∧(x.tmod n+n).tmod n<n:=by
 have h1:=Int.lt_tmod_of_pos x (show 0<n by omega)
 rw[Int.tmod_eq_emod_of_nonneg (Xa)]
 exact⟨Int.emod_nonneg _ Xa,Int.emod_lt_of_pos _ Xa⟩
theorem MF{l:List Tok}{k:Nat}(h:k<l.length):(dN l).getD k .junk=BG l[k]:=by simp[dN,gEq,h]
end Go.AL
