/- Contracts and plain laws, a part of the proof; no condition of its own. -/
import Derived.Test.YtokjjhidigoodaaN05d
open List renaming length_cons → yaz, take_succ_cons → yaq, drop_eq_nil_of_le → ybf, length_nil → yba, take_of_length_le → ybc, drop_append → ybd, take_append → ybe, append_nil → yaj
/- Plain laws of tokens; the texts of literals are given as a function. -/
open Go Go.AL
namespace Go.AL
set_option linter.all false
def cE (c:UInt8):Bool:=decide (97≤c.toNat)&&decide (c.toNat≤122)
def dn (c:UInt8):Bool:=cE c||(decide (48≤c.toNat)&&decide (c.toNat≤57))||c==95
def syms:List (List UInt8):=[[38,38],[124,124],[45,62],[61,61],[33,61],[60,61],[62,61],[58,58],[40],[41],[33],[60],[62],[43],[45]]
/-- the symbol that begins a text -/
def l7 (l:List (List UInt8)) (s:List UInt8):List UInt8:=match l with
 |[]=>[]
 |x::l=>if gB s x then x else l7 l s
def je (s:List UInt8):List UInt8:=l7 syms s
/-- the word that begins a text -/
def bH (s:List UInt8):List UInt8:=s.takeWhile dn
abbrev Tok:=Nat × List UInt8 × Nat
/-- kind and text of the token that begins a text -/
def fE (s:List UInt8):Option (Nat × List UInt8) :=
 match bH s with
 |[]=>match je s with
  |[]=>none
  |x=>some (3,x)
 |c::w=>if cE c then some (2,c::w) else if (lit (c::w)).isSome then some (1,c::w) else none
/-- the tokens up to the end, or up to the first error and its index -/
def d9:Nat→List UInt8→Nat→List Tok × Option Nat
 |0,_,_=>([],none)
 |_+1,[],_=>([],none)
 |f+1,c::r,k=>if c=32 then d9 f r (k+1) else match fE (c::r) with
  |none=>([],some k)
  |some (kd,x)=>((kd,x,k)::(d9 f ((c::r).drop x.length) (k+x.length)).1,(d9 f ((c::r).drop x.length) (k+x.length)).2)
theorem rZ {s:List UInt8}:∀ {l:List (List UInt8)},(∀ x∈l,x≠[])→l7 l s≠[]→l7 l s∈l∧gB s (l7 l s)=true
 |[],_,h=>absurd rfl h
 |x::l,hl,h=>by
  unfold l7 at h ⊢
  by_cases hx:gB s x=true
  ·rw [if_pos hx];exact ⟨List.mem_cons_self,hx⟩
  ·rw [if_neg hx] at h ⊢
   obtain ⟨h1,h2⟩:=rZ (fun y hy=>hl y (List.mem_cons_of_mem _ hy)) h
   exact ⟨List.mem_cons_of_mem _ h1,h2⟩
theorem w6:∀ x∈syms,x≠[]:=by decide
theorem vL {s p:List UInt8} (h:gB s p=true):p.length≤s.length∧s.take p.length=p:=by
 have h2:=eq_of_beq h
 have:=congrArg List.length h2
 rw [List.length_take] at this
 exact ⟨by omega,h2⟩
theorem gu {p:UInt8→Bool}:∀ (s:List UInt8),s.take (s.takeWhile p).length=s.takeWhile p
 |[]=>rfl
 |c::s=>by
  by_cases h:p c=true
  ·rw [List.takeWhile_cons_of_pos h,yaz,yaq,gu s]
  ·rw [List.takeWhile_cons_of_neg h];rfl
/-- a token's text is what it is cut out of, and is not empty -/
theorem gW {s:List UInt8} {kd:Nat} {x:List UInt8} (h:fE s=some (kd,x)):x≠[]∧x.length≤s.length∧s.take x.length=x:=by
 unfold fE at h
 split at h
 ·split at h
  ·cases h
  ·rename_i y hy
   injection h with h
   injection h with h1 h2
   subst h2
   obtain ⟨_,h4⟩:=rZ w6 (s:=s) hy
   exact ⟨hy,vL h4⟩
 ·rename_i c w hw
  have hx:x=c::w:=by
   split at h
   ·injection h with h;injection h with h1 h2;exact h2.symm
   ·split at h
    ·injection h with h;injection h with h1 h2;exact h2.symm
    ·cases h
  subst hx
  refine ⟨by simp,?_,?_⟩
  ·rw [← hw];exact (List.takeWhile_sublist _).length_le
  ·rw [← hw];exact gu s
theorem fD:∀ (f g:Nat) (s:List UInt8) (k:Nat),s.length≤f→s.length≤g→d9 f s k=d9 g s k
 |0,0,_,_,_,_=>rfl
 |0,g+1,s,k,h,_=>by
  have:s=[]:=List.eq_nil_of_length_eq_zero (by omega)
  subst this;rfl
 |f+1,0,s,k,_,h=>by
  have:s=[]:=List.eq_nil_of_length_eq_zero (by omega)
  subst this;rfl
 |f+1,g+1,[],k,_,_=>rfl
 |f+1,g+1,c::r,k,h1,h2=>by
  simp only [yaz] at h1 h2
  unfold d9
  split
  ·exact fD f g r (k+1) (by omega) (by omega)
  ·split
   ·rfl
   ·rename_i kd x hx
    obtain ⟨h3,h4,_⟩:=gW hx
    have h5:0<x.length:=List.length_pos_iff.2 h3
    have e:=fD f g ((c::r).drop x.length) (k+x.length) (by rw [List.length_drop,yaz];omega) (by rw [List.length_drop,yaz];omega)
    rw [e]
/-- the tokens of what lies behind place k -/
def rest (s:List UInt8) (k:Nat):List Tok × Option Nat:=d9 s.length (s.drop k) k
theorem wo {s:List UInt8} {k:Nat} (h:s.length≤k):rest s k=([],none):=by
 unfold rest
 rw [ybf h]
 cases s.length<;>rfl
theorem qO {s:List UInt8} {k:Nat} (h:k<s.length) (h2:s[k]=32):rest s k=rest s (k+1):=by
 unfold rest
 obtain ⟨f,hf⟩:∃ f,s.length=f+1:=⟨s.length - 1,by omega⟩
 rw [List.drop_eq_getElem_cons h,h2]
 rw [hf]
 show d9 (f+1) (32::s.drop (k+1)) k=_
 rw [d9,if_pos rfl]
 exact fD _ _ _ _ (by rw [List.length_drop];omega) (by rw [List.length_drop];omega)
theorem pE {s:List UInt8} {k:Nat} (h:k<s.length) (h2:s[k]≠32) (h3:fE (s.drop k)=none):rest s k=([],some k):=by
 unfold rest
 obtain ⟨f,hf⟩:∃ f,s.length=f+1:=⟨s.length - 1,by omega⟩
 rw [List.drop_eq_getElem_cons h] at h3 ⊢
 rw [hf]
 rw [d9,if_neg h2,h3]
theorem t8 {s:List UInt8} {k kd:Nat} {x:List UInt8} (h:k<s.length) (h2:s[k]≠32) (h3:fE (s.drop k)=some (kd,x)) :
 rest s k=((kd,x,k)::(rest s (k+x.length)).1,(rest s (k+x.length)).2):=by
 obtain ⟨g1,g2,_⟩:=gW h3
 have g3:0<x.length:=List.length_pos_iff.2 g1
 rw [List.length_drop] at g2
 unfold rest
 obtain ⟨f,hf⟩:∃ f,s.length=f+1:=⟨s.length - 1,by omega⟩
 have e:d9 f ((s.drop k).drop x.length) (k+x.length)=d9 s.length (s.drop (k+x.length)) (k+x.length):=by
  rw [List.drop_drop]
  exact fD _ _ _ _ (by rw [List.length_drop];omega) (by rw [List.length_drop];omega)
 rw [← e,hf]
 rw [List.drop_eq_getElem_cons h] at h3 ⊢
 rw [d9,if_neg h2,h3]
/-- all tokens, index and error of a text -/
def a8 (s:List UInt8):List Tok × Nat × Nat:=if 400<s.length then ([],0,3) else match rest s 0 with
 |(l,none)=>(l,0,0)
 |(_,some k)=>([],k,10)
end Go.AL
open Go Go.AL Go.Proofs
namespace Go.AL
set_option linter.all false
set_option maxRecDepth 10000
end Go.AL
open Go Go.AL Go.Proofs
namespace Go.AL
set_option linter.all false
set_option maxRecDepth 10000
theorem wN:ti Try.prog 157=some ⟨.struct [(0,3,false),(1,9,false),(2,3,false)],3,32,.agg [.int .i64 0,.str [],.int .i64 0]⟩:=by kernel_rfl
theorem wC:ti Try.prog 114=some ⟨.slice 157,1,24,.slice .nil 1 []⟩:=by kernel_rfl
theorem sP:ti Try.prog 74=some ⟨.int .i64,1,8,.int .i64 0⟩:=by kernel_rfl
attribute [go_sem] wN wC sP
theorem rO {t:Bool} {A B:Prop} (e:t=false) (h:B):fF t A B:=bD (fun h=>by simp [e] at h) (fun _=>h)
theorem nQ {P:Program} {Ω:Tbl} {K:Conts} {t:Bool} {a b:Code} {fr:Fr} {H:AHeap} (e:t=false) (h:aw P Ω b K fr H):ik P Ω (.bool t) a b K fr H:=ar (fun h=>by simp [e] at h) (fun _=>h)
/-- a row of texts -/
def sAV (l:List (List UInt8)):List AV:=l.map .str
theorem fH {l:List (List UInt8)}:(sAV l).length=l.length:=by simp [sAV]
theorem rR {l:List (List UInt8)} {i:Nat} (h:i<l.length):(sAV l).getD i .junk=.str (l.getD i []):=by simp [sAV,List.getD_eq_getElem?_getD,h]
theorem dT {n sz:Nat} {l:List AV} (h:∀ x∈l,AV.lt n x):AV.lt n (.slice .any sz l):=by
 rw [AV.lt]
 exact ⟨fun id e=>(by cases e),fun j hj=>h _ (List.getElem_mem hj)⟩
theorem dM {n:Nat} {l:List (List UInt8)}:AV.lt n (.slice .any 1 (sAV l)):=dT fun x hx=>by
 obtain ⟨s,_,rfl⟩:=List.mem_map.1 hx
 simp only [znd]
theorem yU:[AV.str [38,38],.str [124,124],.str [45,62],.str [61,61],.str [33,61],.str [60,61],.str [62,61],.str [58,58],.str [40],.str [41],.str [33],.str [60],.str [62],.str [43],.str [45]]=sAV syms:=rfl
theorem gM:syms.length=15:=rfl
/-- tokens in memory -/
def ol (t:Tok):AV:=.agg [.int .i64 (t.1:Int),.str t.2.1,.int .i64 (t.2.2:Int)]
def bP (l:List Tok):List AV:=l.map ol
theorem aO {l:List Tok}:(bP l).length=l.length:=by simp [bP]
theorem yn {l:List Tok} {x:List UInt8} {k:Nat}:bP l++[.agg [.int .i64 1,.str x,.int .i64 (k:Int)]]=bP (l++[(1,x,k)]):=by simp [bP,ol]
theorem yY {l:List Tok} {x:List UInt8} {k:Nat}:bP l++[.agg [.int .i64 2,.str x,.int .i64 (k:Int)]]=bP (l++[(2,x,k)]):=by simp [bP,ol]
theorem zb {l:List Tok} {x:List UInt8} {k:Nat}:bP l++[.agg [.int .i64 3,.str x,.int .i64 (k:Int)]]=bP (l++[(3,x,k)]):=by simp [bP,ol]
theorem qz {k1 k2:IntKind} {a c:Int} {b:List UInt8}:(∀ z,z∈[AV.agg [.int k1 a,.str b,.int k2 c]]→aI z.cells=true)=True:=eq_true fun z hz=>by
 rw [List.mem_singleton.1 hz]
 simp [zim,zgm,zgn,zgo,zgq]
theorem bS {H Hc:AHeap} {i:Nat} {o:AObj} (h:H.Le Hc) (hi:H.nx≤i):H.Le (Hc.set i o):=⟨h.nx,fun j x hj=>by
 have:=AHeap.get_lt hj
 rw [AHeap.get_set_ne _ _ (by omega)]
 exact h.get j x hj⟩
theorem fq:bP []=[]:=rfl
theorem xJ {n:Nat} {l:List Tok}:AV.lt n (.slice .any 3 (bP l)):=dT fun x hx=>by
 obtain ⟨s,_,rfl⟩:=List.mem_map.1 hx
 simp only [ol,znn,znq,znr,znb,znd,and_true]
theorem v6 {n:Nat} {l:List Tok}:ltL n (bP l):=ltL_iff.2 fun j hj=>by
 simp only [bP,List.getElem_map,ol,znn,znq,znr,znb,znd,and_true]
theorem kg {n id:Nat} {l:List Tok} (h:id<n):AV.lt n (.slice (.own id) 3 (bP l)):=by
 rw [bM]
 exact ⟨fun i e=>by cases e;exact h,v6⟩
def oa (s:List UInt8):AV:=.tup [.slice .any 3 (bP (a8 s).1),.int .i64 ((a8 s).2.1:Int),.int .i64 ((a8 s).2.2:Int)]
def eW:List AV→AHeap→(AV→Prop)→Prop
 |[.str s,.str p],_,K=>K (.bool (gB s p))
 |_,_,_=>False
theorem iU:EntOk Try.prog 50 (Ent.pure eW):=by
 refine EntOk.pure fun args H K h=>?_
 unfold eW at h
 split at h
 rotate_left
 ·exact h.elim
 rename_i s p
 refine ⟨_,h,?_⟩
 clear h
 refine ACalls.fW ay (TblOk.cons il TblOk.nil) Try.func50 [.tmp 4] (Nat.le_refl _) (T:=al []) (h:=fun hcl hlt=>?_)
 clear hlt
 simp only [go_sem,ew]
 simp (disch:=first|assumption|omega|(simp;done)|(simp;omega)|(simp only [bt,and_true];first|done|omega|(simp;done))) [↓zmk,beq,ybc,ybd,ybe,ae,wk,wk2,wk1,wkM,wkL,ah,ybf,hcl]
def iC:List AV→AHeap→(AV→Prop)→Prop
 |[],_,K=>K (.slice .any 1 (sAV syms))
 |_,_,_=>False
theorem oW:EntOk Try.prog 70 (Ent.pure iC):=by
 refine EntOk.pure fun args H K h=>?_
 unfold iC at h
 split at h
 rotate_left
 ·exact h.elim
 refine ⟨_,h,?_⟩
 clear h
 refine ACalls.fW ay TblOk.nil Try.func70 [.tmp 0] (Nat.le_refl _) (T:=al []) (h:=fun hcl hlt=>?_)
 clear hlt
 simp only [go_sem,yU]
 simp (disch:=first|assumption|omega|(simp;done)|(simp;omega)|(simp only [bt,and_true];first|done|omega|(simp;done))) [↓zmk,beq,ybc,ybd,ybe,ae,wk,wk2,wk1,wkM,wkL,ah,ybf,hcl,dM]
theorem tc {x:List UInt8} {l:List (List UInt8)} {s:List UInt8}:l7 (x::l) s=if gB s x then x else l7 l s:=by rw [l7]
def ju:List AV→AHeap→(AV→Prop)→Prop
 |[.str s],_,K=>K (.str (je s))
 |_,_,_=>False
theorem qF:EntOk Try.prog 51 (Ent.pure ju):=by
 refine EntOk.pure fun args H K h=>?_
 unfold ju at h
 split at h
 rotate_left
 ·exact h.elim
 rename_i s
 refine ⟨_,h,?_⟩
 clear h
 refine ACalls.fW ay (TblOk.cons oW (TblOk.cons iU TblOk.nil)) Try.func51 [.tmp 2] (Nat.le_refl _) (T:=al []) (h:=fun hcl hlt=>?_)
 clear hlt
 simp only [go_sem,iC,fH]
 refine aF (A:=Nat) (fun k=>[(0,.str s),(5,.slice .any 1 (sAV syms)),(6,.int .i64 15),(7,.int .i64 (k:Int))]) (fun k=>H) (fun k=>k≤15∧je s=l7 (syms.drop k) s) (fun k=>15 - k) 0 ⟨by omega,rfl⟩ ?_ fun k hk=>?_
 ·(simp only [bkq,enterW,bf,ltF,ne_eq,Nat.reduceEqDiff,reduceCtorEq,dM,gM];try simp (disch:=first|assumption|omega|(simp;done)|(simp;omega)|(simp only [bt,and_true];first|done|omega|(simp;done))) [↓zmk,beq,ybc,ybd,ybe,ae,wk,wk2,wk1,wkM,wkL,ah,ybf,byq,biq,aj,hcl,dM,gM];try (repeat' (first|assumption|omega|exact True.intro|refine And.intro ?_ ?_|refine af ?_|refine aa ?_|refine ac ?_ ?_|refine ag ?_ ?_|refine ai ?_|exact AHeap.Le.refl _|refine AHeap.Le.push ?_ _|refine AHeap.Le.del ?_ ?_|(simp only [bt,and_true,true_and,dM,gM];first|done|omega|(simp;done)))))
 obtain ⟨hk,hs⟩:=hk
 simp only [go_sem]
 refine ar (fun h1=>?_) (fun h1=>?_)
 ·have hk2:k<15:=by simp at h1;omega
  have hk1:k<syms.length:=by rw [gM];exact hk2
  have hg:(sAV syms).getD k .junk=.str (syms.getD k []):=rR hk1
  have e5:IntKind.i64.wrap ((k:Int)+1)=((k+1:Nat):Int):=by rw [wrap_i64]<;>omega
  have hgk:syms.getD k []=syms[k]:=by simp [List.getD_eq_getElem?_getD,hk1]
  rw [List.drop_eq_getElem_cons hk1,tc] at hs
  rw [hgk] at hg
  generalize syms[k]=x at *
  simp only [go_sem,Int.toNat_natCast,fH,gM,hg,eW,e5]
  refine ⟨by omega,ar (fun h2=>?_) (fun h2=>?_)⟩
  ·rw [if_pos h2] at hs
   simp only [go_sem,hs]
   simp (disch:=first|assumption|omega|(simp;done)|(simp;omega)|(simp only [bt,and_true];first|done|omega|(simp;done))) [↓zmk,beq,ybc,ybd,ybe,ae,wk,wk2,wk1,wkM,wkL,ah,ybf,hcl]
  ·rw [if_neg (by simp [h2])] at hs
   simp only [go_sem,e5]
   refine ⟨k+1,⟨by omega,hs⟩,by omega,?_⟩
   (simp only [bkq,enterW,bf,ltF,ne_eq,Nat.reduceEqDiff,reduceCtorEq,dM];try simp (disch:=first|assumption|omega|(simp;done)|(simp;omega)|(simp only [bt,and_true];first|done|omega|(simp;done))) [↓zmk,beq,ybc,ybd,ybe,ae,wk,wk2,wk1,wkM,wkL,ah,ybf,byq,biq,aj,hcl,dM];try (repeat' (first|assumption|omega|exact True.intro|refine And.intro ?_ ?_|refine af ?_|refine aa ?_|refine ac ?_ ?_|refine ag ?_ ?_|refine ai ?_|exact AHeap.Le.refl _|refine AHeap.Le.push ?_ _|refine AHeap.Le.del ?_ ?_|(simp only [bt,and_true,true_and,dM];first|done|omega|(simp;done)))))
 ·have hk1:k=15:=by simp at h1;omega
  subst hk1
  have h0:je s=[]:=by rw [hs];rfl
  simp only [go_sem,h0]
  simp (disch:=first|assumption|omega|(simp;done)|(simp;omega)|(simp only [bt,and_true];first|done|omega|(simp;done))) [↓zmk,beq,ybc,ybd,ybe,ae,wk,wk2,wk1,wkM,wkL,ah,ybf,hcl]
def gQ:List AV→AHeap→(AV→Prop)→Prop
 |[x],_,K=>∃ c,x=a9 c∧K (.bool (cE c))
 |_,_,_=>False
theorem l3:EntOk Try.prog 53 (Ent.pure gQ):=by
 refine EntOk.pure fun args H K h=>?_
 unfold gQ at h
 split at h
 rotate_left
 ·exact h.elim
 obtain ⟨c,rfl,hK⟩:=h
 refine ⟨_,hK,?_⟩
 clear hK
 refine ACalls.fW ay TblOk.nil Try.func53 [.tmp 2] (Nat.le_refl _) (T:=al []) (h:=fun hcl hlt=>?_)
 clear hlt
 simp only [go_sem,a9]
 refine bD (fun h1=>?_) (fun h1=>?_)
 ·have e:cE c=decide ((c.toNat:Int)≤122):=by unfold cE;rw [Bool.eq_iff_iff];simp at h1 ⊢;omega
  simp only [go_sem,e]
  simp (disch:=first|assumption|omega|(simp;done)|(simp;omega)|(simp only [bt,and_true];first|done|omega|(simp;done))) [↓zmk,beq,ybc,ybd,ybe,ae,wk,wk2,wk1,wkM,wkL,ah,ybf,hcl]
 ·have e:cE c=false:=by unfold cE;rw [Bool.eq_iff_iff];simp at h1 ⊢;omega
  simp only [go_sem,e]
  simp (disch:=first|assumption|omega|(simp;done)|(simp;omega)|(simp only [bt,and_true];first|done|omega|(simp;done))) [↓zmk,beq,ybc,ybd,ybe,ae,wk,wk2,wk1,wkM,wkL,ah,ybf,hcl]
def oy:List AV→AHeap→(AV→Prop)→Prop
 |[x],_,K=>∃ c,x=a9 c∧K (.bool (dn c))
 |_,_,_=>False
theorem wz:EntOk Try.prog 71 (Ent.pure oy):=by
 refine EntOk.pure fun args H K h=>?_
 unfold oy at h
 split at h
 rotate_left
 ·exact h.elim
 obtain ⟨c,rfl,hK⟩:=h
 refine ⟨_,hK,?_⟩
 clear hK
 refine ACalls.fW ay (TblOk.cons l3 TblOk.nil) Try.func71 [.tmp 2] (Nat.le_refl _) (T:=al []) (h:=fun hcl hlt=>?_)
 clear hlt
 simp only [go_sem,gQ]
 refine ⟨c,rfl,?_⟩
 simp only [go_sem,a9]
 have e95:(((c.toNat:Nat):Int)==95)=(c==95):=by rw [Bool.eq_iff_iff];simp [← UInt8.toNat_inj];omega
 rw [e95]
 refine bD (fun h1=>?_) (fun h1=>?_)
 ·have e:dn c=true:=by unfold dn;rw [h1];rfl
  simp only [go_sem,e]
  simp (disch:=first|assumption|omega|(simp;done)|(simp;omega)|(simp only [bt,and_true];first|done|omega|(simp;done))) [↓zmk,beq,ybc,ybd,ybe,ae,wk,wk2,wk1,wkM,wkL,ah,ybf,hcl]
 ·refine bD (fun h2=>?_) (fun h2=>?_)
  ·have h2':48≤c.toNat:=by simp at h2;omega
   refine bD (fun h3=>?_) (fun h3=>?_)
   ·have h3':c.toNat≤57:=by simp at h3;omega
    have e:dn c=true:=by unfold dn;rw [decide_eq_true h2',decide_eq_true h3'];simp
    simp only [go_sem,e]
    simp (disch:=first|assumption|omega|(simp;done)|(simp;omega)|(simp only [bt,and_true];first|done|omega|(simp;done))) [↓zmk,beq,ybc,ybd,ybe,ae,wk,wk2,wk1,wkM,wkL,ah,ybf,hcl]
   ·have h3':¬ c.toNat≤57:=by simp at h3;omega
    have e:dn c=(c==95):=by unfold dn;rw [decide_eq_false h3',h1];simp
    simp only [go_sem,e]
    simp (disch:=first|assumption|omega|(simp;done)|(simp;omega)|(simp only [bt,and_true];first|done|omega|(simp;done))) [↓zmk,beq,ybc,ybd,ybe,ae,wk,wk2,wk1,wkM,wkL,ah,ybf,hcl]
  ·have h2':¬ 48≤c.toNat:=by simp at h2;omega
   have e:dn c=(c==95):=by unfold dn;rw [decide_eq_false h2',h1];simp
   simp only [go_sem,e]
   simp (disch:=first|assumption|omega|(simp;done)|(simp;omega)|(simp only [bt,and_true];first|done|omega|(simp;done))) [↓zmk,beq,ybc,ybd,ybe,ae,wk,wk2,wk1,wkM,wkL,ah,ybf,hcl]
theorem kf {s:List UInt8} {k:Nat} (h:k<s.length):bH (s.drop k)=if dn (s.getD k 0) then s.getD k 0::bH (s.drop (k+1)) else []:=by
 have e:s.getD k 0=s[k]:=by simp [List.getD_eq_getElem?_getD,h]
 rw [e,List.drop_eq_getElem_cons h]
 unfold bH
 by_cases hp:dn s[k]=true
 ·rw [if_pos hp,List.takeWhile_cons_of_pos hp]
 ·rw [if_neg hp,List.takeWhile_cons_of_neg hp]
theorem sj {s:List UInt8} {k:Nat} (h:k<s.length) (hp:dn (s.getD k 0)=true) (hw:bH s=s.take k++bH (s.drop k)):bH s=s.take (k+1)++bH (s.drop (k+1)):=by
 have e:s.getD k 0=s[k]:=by simp [List.getD_eq_getElem?_getD,h]
 rw [kf h,if_pos hp,e] at hw
 rw [hw,List.take_succ_eq_append_getElem h,List.append_assoc];rfl
theorem pR {s:List UInt8} {k:Nat} (h:k<s.length) (hp:dn (s.getD k 0)=false) (hw:bH s=s.take k++bH (s.drop k)):bH s=s.take k:=by
 rw [kf h,if_neg (by rw [hp];decide),yaj] at hw
 exact hw
theorem qU {s:List UInt8} {k:Nat} (h:¬ k<s.length) (hw:bH s=s.take k++bH (s.drop k)):bH s=s.take k:=by
 rw [ybf (by omega)] at hw
 simpa [bH] using hw
def nC:List AV→AHeap→(AV→Prop)→Prop
 |[.str s],_,K=>s.length≤140737488355328∧K (.str (bH s))
 |_,_,_=>False
theorem wa:EntOk Try.prog 52 (Ent.pure nC):=by
 refine EntOk.pure fun args H K h=>?_
 unfold nC at h
 split at h
 rotate_left
 ·exact h.elim
 rename_i s
 obtain ⟨hsl,hK⟩:=h
 refine ⟨_,hK,?_⟩
 clear hK
 refine ACalls.fW ay (TblOk.cons wz TblOk.nil) Try.func52 [.tmp 2] (Nat.le_refl _) (T:=al []) (h:=fun hcl hlt=>?_)
 clear hlt
 simp only [go_sem]
 refine aF (A:=Nat) (fun k=>[(0,.str s),(3,.int .i64 (k:Int))]) (fun k=>H) (fun k=>k≤s.length∧bH s=s.take k++bH (s.drop k)) (fun k=>s.length - k) 0 ⟨by omega,by simp⟩ ?_ fun k hk=>?_
 ·(simp only [bkq,enterW,bf,ltF,ne_eq,Nat.reduceEqDiff,reduceCtorEq];try simp (disch:=first|assumption|omega|(simp;done)|(simp;omega)|(simp only [bt,and_true];first|done|omega|(simp;done))) [↓zmk,beq,ybc,ybd,ybe,ae,wk,wk2,wk1,wkM,wkL,ah,ybf,byq,biq,aj,hcl];try (repeat' (first|assumption|omega|exact True.intro|refine And.intro ?_ ?_|refine af ?_|refine aa ?_|refine ac ?_ ?_|refine ag ?_ ?_|refine ai ?_|exact AHeap.Le.refl _|refine AHeap.Le.push ?_ _|refine AHeap.Le.del ?_ ?_|(simp only [bt,and_true,true_and];first|done|omega|(simp;done)))))
 obtain ⟨hk,hs⟩:=hk
 simp only [go_sem]
 refine bD (fun h1=>?_) (fun h1=>?_)
 ·have hk1:k<s.length:=by simp at h1;omega
  have e5:IntKind.i64.wrap ((k:Int)+1)=((k+1:Nat):Int):=by rw [wrap_i64]<;>omega
  simp only [go_sem,oy,Int.toNat_natCast]
  refine ⟨by omega,s.getD k 0,rfl,?_⟩
  refine ar (fun h2=>?_) (fun h2=>?_)
  ·simp only [go_sem,e5]
   refine ⟨k+1,⟨by omega,sj hk1 h2 hs⟩,by omega,?_⟩
   (simp only [bkq,enterW,bf,ltF,ne_eq,Nat.reduceEqDiff,reduceCtorEq];try simp (disch:=first|assumption|omega|(simp;done)|(simp;omega)|(simp only [bt,and_true];first|done|omega|(simp;done))) [↓zmk,beq,ybc,ybd,ybe,ae,wk,wk2,wk1,wkM,wkL,ah,ybf,byq,biq,aj,hcl];try (repeat' (first|assumption|omega|exact True.intro|refine And.intro ?_ ?_|refine af ?_|refine aa ?_|refine ac ?_ ?_|refine ag ?_ ?_|refine ai ?_|exact AHeap.Le.refl _|refine AHeap.Le.push ?_ _|refine AHeap.Le.del ?_ ?_|(simp only [bt,and_true,true_and];first|done|omega|(simp;done)))))
  ·have hw:=pR hk1 h2 hs
   simp only [go_sem,Int.toNat_natCast,hw]
   refine ⟨by omega,?_⟩
   simp (disch:=first|assumption|omega|(simp;done)|(simp;omega)|(simp only [bt,and_true];first|done|omega|(simp;done))) [↓zmk,beq,ybc,ybd,ybe,ae,wk,wk2,wk1,wkM,wkL,ah,ybf,hcl]
 ·have hk1:¬ k<s.length:=by simp at h1;omega
  have hw:=qU hk1 hs
  try simp only [go_sem,Int.toNat_natCast,hw,zau]
  refine ⟨by omega,?_⟩
  simp (disch:=first|assumption|omega|(simp;done)|(simp;omega)|(simp only [bt,and_true];first|done|omega|(simp;done))) [↓zmk,beq,ybc,ybd,ybe,ae,wk,wk2,wk1,wkM,wkL,ah,ybf,hcl]
def kC:List AV→AHeap→(AV→Prop)→Prop
 |[.str s],_,K=>s.length≤140737488355328∧K (oa s)
 |_,_,_=>False
theorem kF {s:List UInt8} {k:Nat} {x:List UInt8} {kd:Nat} (h:k<s.length) (h3:fE (s.drop k)=some (kd,x)):x≠[]∧k+x.length≤s.length:=by
 obtain ⟨g1,g2,_⟩:=gW h3
 rw [List.length_drop] at g2
 exact ⟨g1,by omega⟩
theorem sw {s:List UInt8} {l:List Tok} (h:¬ 400<s.length) (e:rest s 0=(l,none)):a8 s=(l,0,0):=by unfold a8;rw [if_neg h,e]
theorem mQ {s:List UInt8} {l:List Tok} {k:Nat} (h:¬ 400<s.length) (e:rest s 0=(l,some k)):a8 s=([],k,10):=by unfold a8;rw [if_neg h,e]
theorem sA {s:List UInt8} (h:bH s=[]) (h2:je s=[]):fE s=none:=by unfold fE;rw [h,h2]
theorem uF {s y:List UInt8} (h:bH s=[]) (h2:je s=y) (hy:y≠[]):fE s=some (3,y):=by
 unfold fE;rw [h,h2];cases y with
 |nil=>exact absurd rfl hy
 |cons a b=>rfl
theorem wE {s w:List UInt8} {c:UInt8} (h:bH s=c::w) (h2:cE c=true):fE s=some (2,c::w):=by unfold fE;rw [h];dsimp only;rw [if_pos h2]
theorem uf {s w:List UInt8} {c:UInt8} {n:Nat} (h:bH s=c::w) (h2:cE c=false) (h3:lit (c::w)=some n):fE s=some (1,c::w):=by
 unfold fE;rw [h];dsimp only;rw [if_neg (by rw [h2];decide),h3];rfl
theorem ua {s w:List UInt8} {c:UInt8} (h:bH s=c::w) (h2:cE c=false) (h3:lit (c::w)=none):fE s=none:=by
 unfold fE;rw [h];dsimp only;rw [if_neg (by rw [h2];decide),h3];rfl
theorem ox {s:List UInt8} {pre:List Tok} {k kd id:Nat} {x:List UInt8} {H Hd:AHeap} {fr:Fr} (hk:k<s.length) (hc:s[k]≠32) (ht:fE (s.drop k)=some (kd,x)) (hpl:pre.length≤k)
 (hr:rest s 0=(pre++(rest s k).1,(rest s k).2)) (hle:H.Le Hd) (hcd:Hd.Closed) (hid:H.nx≤id) (hg:Hd.get id=some (.buf 3 (pre.length+1)))
 (f0:Fr.get fr 0=.str s) (f5:Fr.get fr 5=.slice (.own id) 3 (bP (pre++[(kd,x,k)]))) (f6:Fr.get fr 6=.int .i64 ((k+x.length:Nat):Int)) :
 ∃ a':Nat × List Tok × Nat × AHeap,((a'.1≤s.length∧a'.2.1.length≤a'.1∧rest s 0=(a'.2.1++(rest s a'.1).1,(rest s a'.1).2))∧H.Le a'.2.2.2∧a'.2.2.2.Closed∧H.nx≤a'.2.2.1∧a'.2.2.2.get a'.2.2.1=some (.buf 3 a'.2.1.length)) ∧
  s.length - a'.1<s.length - k∧enterW H.nx fr Hd [(0,.str s),(5,.slice (.own a'.2.2.1) 3 (bP a'.2.1)),(6,.int .i64 (a'.1:Int))] a'.2.2.2:=by
 obtain ⟨hy1,hy2⟩:=kF hk ht
 have hyl:0<x.length:=List.length_pos_iff.2 hy1
 have hid2:id<Hd.nx:=AHeap.get_lt hg
 refine ⟨(k+x.length,pre++[(kd,x,k)],id,Hd),⟨⟨hy2,?_,?_⟩,hle,hcd,hid,?_⟩,?_,hle.nx,AHeap.Le.refl _,hcd,?_,?_⟩
 ·simp;omega
 ·rw [hr,t8 hk hc ht,List.append_assoc];rfl
 ·rw [hg];simp
 ·dsimp only;omega
 ·simp only [ltF,znd,znb,true_and,and_true]
  exact kg hid2
 ·simp [bf,wk2,wk1,wkM,f0,f5,f6]
theorem m8 {s:List UInt8} {k:Nat} (h:k<s.length):gB (s.drop k) [32]=(s[k]==32):=by
 unfold gB
 rw [List.drop_eq_getElem_cons h]
 generalize s.drop (k+1)=r
 rw [Bool.eq_iff_iff,beq_iff_eq,beq_iff_eq]
 show [s[k]]=[32]↔_
 simp
set_option maxHeartbeats 2000000 in
theorem uB:EntOk Try.prog 37 (Ent.pure kC):=by
 refine EntOk.pure fun args H K h=>?_
 unfold kC at h
 split at h
 rotate_left
 ·exact h.elim
 rename_i s
 obtain ⟨hsl,hK⟩:=h
 refine ⟨_,hK,?_⟩
 clear hK
 refine ACalls.fW ay (TblOk.cons iU (TblOk.cons qF (TblOk.cons wa (TblOk.cons l3 (TblOk.cons jV TblOk.nil))))) Try.func37 [.tmp 2,.tmp 3,.tmp 4] (Nat.le_refl _) (T:=al []) (h:=fun hcl hlt=>?_)
 clear hlt
 simp only [go_sem,oa]
 refine ar (fun h1=>?_) (fun h1=>?_)
 ·have h1':400<s.length:=by simp at h1;omega
  have e:a8 s=([],0,3):=by unfold a8;rw [if_pos h1']
  simp only [go_sem,e,fq]
  simp (disch:=first|assumption|omega|(simp;done)|(simp;omega)|(simp only [bt,and_true];first|done|omega|(simp;done))) [↓zmk,beq,ybc,ybd,ybe,ae,wk,wk2,wk1,wkM,wkL,ah,ybf,hcl,dT]
 have h1':¬ 400<s.length:=by simp at h1;omega
 simp only [go_sem]
 refine aF (A:=Nat × List Tok × Nat × AHeap) (fun a=>[(0,.str s),(5,.slice (.own a.2.2.1) 3 (bP a.2.1)),(6,.int .i64 (a.1:Int))]) (fun a=>a.2.2.2)
  (fun a=>(a.1≤s.length∧a.2.1.length≤a.1∧rest s 0=(a.2.1++(rest s a.1).1,(rest s a.1).2))∧H.Le a.2.2.2∧a.2.2.2.Closed∧H.nx≤a.2.2.1∧a.2.2.2.get a.2.2.1=some (.buf 3 a.2.1.length))
  (fun a=>s.length - a.1) (0,[],H.nx+1,(H.push (.buf 3 0)).push (.buf 3 0)) ⟨⟨by omega,by simp,by simp⟩,?_,?_,by simp,?_⟩ ?_ fun a ha=>?_
 ·simp (disch:=first|assumption|omega|(simp;done)|(simp;omega)|(simp only [bt,and_true];first|done|omega|(simp;done))) [↓zmk,beq,ybc,ybd,ybe,ae,wk,wk2,wk1,wkM,wkL,ah,ybf,hcl]
 ·(repeat' (first|assumption|omega|exact True.intro|refine And.intro ?_ ?_|refine af ?_|refine aa ?_|refine ac ?_ ?_|refine ag ?_ ?_|refine ai ?_|exact AHeap.Le.refl _|refine AHeap.Le.push ?_ _|refine AHeap.Le.del ?_ ?_|(simp only [bt,and_true,true_and];first|done|omega|(simp;done))))
 ·exact AHeap.get_push_new _ _
 ·(simp only [bkq,enterW,bf,ltF,ne_eq,Nat.reduceEqDiff,reduceCtorEq,fq];try simp (disch:=first|assumption|omega|(simp;done)|(simp;omega)|(simp only [bt,and_true];first|done|omega|(simp;done))) [↓zmk,beq,ybc,ybd,ybe,ae,wk,wk2,wk1,wkM,wkL,ah,ybf,byq,biq,aj,hcl,fq];try (repeat' (first|assumption|omega|exact True.intro|refine And.intro ?_ ?_|refine af ?_|refine aa ?_|refine ac ?_ ?_|refine ag ?_ ?_|refine ai ?_|exact AHeap.Le.refl _|refine AHeap.Le.push ?_ _|refine AHeap.Le.del ?_ ?_|(simp only [bt,and_true,true_and,fq];first|done|omega|(simp;done)))))
 obtain ⟨k,pre,id,Hc⟩:=a
 obtain ⟨⟨hk,hpl,hr⟩,hle,hcc,hid,hst⟩:=ha
 dsimp only at hk hpl hr hle hcc hid hst ⊢
 have hnx:H.nx≤Hc.nx:=hle.nx
 have hid2:id<Hc.nx:=AHeap.get_lt hst
 simp only [go_sem]
 refine ar (fun h2=>?_) (fun h2=>?_)
 ·have hk1:k<s.length:=by simp at h2;omega
  have e5:IntKind.i64.wrap ((k:Int)+1)=((k+1:Nat):Int):=by rw [wrap_i64]<;>omega
  simp only [go_sem,eW,Int.toNat_natCast,List.take_length]
  refine ⟨by omega,ar (fun h3=>?_) (fun h3=>?_)⟩
  ·have hc:s[k]=32:=by rw [m8 hk1] at h3;simpa using h3
   rw [qO hk1 hc] at hr
   simp only [go_sem,e5]
   refine ⟨(k+1,pre,id,Hc),⟨⟨by dsimp only;omega,by dsimp only;omega,hr⟩,hle,hcc,hid,hst⟩,by dsimp only;omega,?_⟩
   (simp only [bkq,enterW,bf,ltF,ne_eq,Nat.reduceEqDiff,reduceCtorEq,hcc,hnx,hid2];try simp (disch:=first|assumption|omega|(simp;done)|(simp;omega)|(simp only [bt,and_true];first|done|omega|(simp;done))) [↓zmk,beq,ybc,ybd,ybe,ae,wk,wk2,wk1,wkM,wkL,ah,ybf,byq,biq,aj,hcl,hcc,hnx,hid2];try (repeat' (first|assumption|omega|exact True.intro|refine And.intro ?_ ?_|refine af ?_|refine aa ?_|refine ac ?_ ?_|refine ag ?_ ?_|refine ai ?_|exact AHeap.Le.refl _|refine AHeap.Le.push ?_ _|refine AHeap.Le.del ?_ ?_|(simp only [bt,and_true,true_and,hcc,hnx,hid2];first|done|omega|(simp;done)))))
   exact kg hid2
  have n1:(id=Hc.nx)=False:=eq_false (by omega)
  have n2:(id=Hc.nx+1)=False:=eq_false (by omega)
  have n3:(id=Hc.nx+1+1)=False:=eq_false (by omega)
  have hc:s[k]≠32:=by rw [m8 hk1] at h3;simpa using h3
  have hsd:(s.drop k).length≤400:=by rw [List.length_drop];omega
  simp only [go_sem,ju,nC]
  refine ⟨by omega,?_⟩
  cases hw:bH (s.drop k) with
  |nil =>
   have en:(([]:List UInt8) != [])=false:=rfl
   rcases Classical.em (je (s.drop k)=[]) with hy|hy
   ·have htk:=sA hw hy
    rw [pE hk1 hc htk,yaj] at hr
    have hsc:=mQ h1' hr
    have eb:(([]:List UInt8)==[])=true:=rfl
    simp only [go_sem,hsc,hy,en,eb,zau,zat,fq]
    simp (disch:=first|assumption|omega|(simp;done)|(simp;omega)|(simp only [bt,and_true];first|done|omega|(simp;done))) [↓zmk,beq,ybc,ybd,ybe,ae,wk,wk2,wk1,wkM,wkL,ah,ybf,hcc,hle,hcl]
    exact (hle.push _).push _
   ·have htk:=uF hw rfl hy
    have eb:(je (s.drop k)==[])=false:=by simpa using hy
    have eb0:(([]:List UInt8)==[])=true:=rfl
    obtain ⟨hy1,hy2⟩:=kF hk1 htk
    generalize je (s.drop k)=y at *
    have e6:IntKind.i64.wrap ((k:Int)+(y.length:Int))=((k+y.length:Nat):Int):=by rw [wrap_i64]<;>omega
    simp only [go_sem,en,eb,eb0,zau,zat,n1,n2,hst,aO,zb,e6,qz]
    refine ⟨by omega,ox hk1 hc htk hpl hr (((bS hle hid).push _).push _) ?_ hid ?_ rfl rfl rfl⟩
    ·exact af (ac (aa hcc) (by simp [znq,znr,znb,znd]))
    ·rw [AHeap.get_push_lt _ _ (by simp [AHeap.push,AHeap.set];omega),AHeap.get_push_lt _ _ (by simp [AHeap.set];omega),AHeap.get_set_same _ _ hid2]
  |cons c w =>
   have en:((c::w) != [])=true:=rfl
   have eb:((c::w)==[])=false:=rfl
   simp only [go_sem,en,eb,zat,gQ]
   refine ⟨by omega,c,rfl,?_⟩
   cases hlc:cE c with
   |true =>
    have htk:=wE hw hlc
    obtain ⟨_,hy2⟩:=kF hk1 htk
    have e6:IntKind.i64.wrap ((k:Int)+((w.length+1:Nat):Int))=((k+(c::w).length:Nat):Int):=by
     rw [yaz] at hy2 ⊢
     rw [wrap_i64]<;>omega
    simp only [go_sem,en,eb,zau,zat,n1,n2,hst,aO,yY,e6,qz]
    refine ⟨by omega,ox hk1 hc htk hpl hr (((bS hle hid).push _).push _) ?_ hid ?_ rfl rfl rfl⟩
    ·exact af (ac (aa hcc) (by simp [znq,znr,znb,znd]))
    ·rw [AHeap.get_push_lt _ _ (by simp [AHeap.push,AHeap.set];omega),AHeap.get_push_lt _ _ (by simp [AHeap.set];omega),AHeap.get_set_same _ _ hid2]
   |false =>
    have hcw:(c::w).length≤400:=by rw [← hw];exact Nat.le_trans (List.takeWhile_sublist _).length_le hsd
    simp only [go_sem,en,eb,zau,zat,fy]
    cases hli:lit (c::w) with
    |none =>
     have htk:=ua hw hlc hli
     rw [pE hk1 hc htk,yaj] at hr
     have hsc:=mQ h1' hr
     simp only [go_sem,hsc,ks,nAV,zau,zat,fq]
     refine ⟨by simp only [yaz] at hcw;omega,?_⟩
     simp (disch:=first|assumption|omega|(simp;done)|(simp;omega)|(simp only [bt,and_true];first|done|omega|(simp;done))) [↓zmk,beq,ybc,ybd,ybe,ae,wk,wk2,wk1,wkM,wkL,ah,ybf,hcc,hle,hcl]
     exact ((hle.push _).push _).push _
    |some n =>
     have htk:=uf hw hlc hli
     obtain ⟨_,hy2⟩:=kF hk1 htk
     have e6:IntKind.i64.wrap ((k:Int)+((w.length+1:Nat):Int))=((k+(c::w).length:Nat):Int):=by
      rw [yaz] at hy2 ⊢
      rw [wrap_i64]<;>omega
     simp only [go_sem,ks,nAV,zau,zat,n1,n2,n3,eb,hst,aO,yn,e6,qz]
     refine ⟨by simp only [yaz] at hcw;omega,by omega,ox hk1 hc htk hpl hr ((((bS hle hid).push _).push _).push _) ?_ hid ?_ rfl rfl rfl⟩
     ·exact af (ac (ac (aa hcc) (by simp [znq,znr,znb,znd])) (by simp [znq,znr,znb,znd]))
     ·rw [AHeap.get_push_lt _ _ (by simp [AHeap.push,AHeap.set];omega),AHeap.get_push_lt _ _ (by simp [AHeap.push,AHeap.set];omega),AHeap.get_push_lt _ _ (by simp [AHeap.set];omega),AHeap.get_set_same _ _ hid2]
 ·have hk1:s.length≤k:=by simp at h2;omega
  rw [wo hk1,yaj] at hr
  have hsc:=sw h1' hr
  simp only [go_sem,hsc]
  simp (disch:=first|assumption|omega|(simp;done)|(simp;omega)|(simp only [bt,and_true];first|done|omega|(simp;done))) [↓zmk,beq,ybc,ybd,ybe,ae,wk,wk2,wk1,wkM,wkL,ah,ybf,hcc,hle,xJ,hcl]
end Go.AL
open Go Go.AL Go.Proofs
namespace Go.AL
set_option linter.all false
set_option maxRecDepth 10000
end Go.AL
open Go Go.AL Go.Proofs
namespace Go.AL
set_option linter.all false
set_option maxRecDepth 10000
theorem uU:ti Try.prog 67=some ⟨.struct [(0,22,false),(1,3,false)],2,32,.agg [.slice .nil 1 [],.int .i64 0]⟩:=by kernel_rfl
attribute [go_sem] uU
theorem mod_lt {x n:Int} (hn:1≤n):0≤(x.tmod n+n).tmod n∧(x.tmod n+n).tmod n<n:=by
 have h1:=Int.lt_tmod_of_pos x (show 0<n by omega)
 rw [Int.tmod_eq_emod_of_nonneg (by omega)]
 exact ⟨Int.emod_nonneg _ (by omega),Int.emod_lt_of_pos _ (by omega)⟩
theorem uu {l:List Tok} {k:Nat} (h:k<l.length):(bP l).getD k .junk=ol l[k]:=by simp [bP,List.getD_eq_getElem?_getD,h]
end Go.AL
