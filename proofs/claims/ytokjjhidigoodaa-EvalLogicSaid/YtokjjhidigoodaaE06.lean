/- Contracts and plain laws, a part of the proof; no condition of its own. -/
import Derived.Test.YtokjjhidigoodaaN05d
open List renaming length_cons → yaz, take_succ_cons → yaq, drop_eq_nil_of_le → ybf, length_nil → yba, take_of_length_le → ybc, drop_append → ybd, take_append → ybe, append_nil → yaj, drop_zero → yap
/- Plain laws of tokens; the texts of literals are given as a function. -/
open Go Go.AL
namespace Go.AL
set_option linter.all false
def bC (c:UInt8):Bool:=decide (97≤c.toNat)&&decide (c.toNat≤122)
def bW (c:UInt8):Bool:=bC c||(decide (48≤c.toNat)&&decide (c.toNat≤57))||c==95
def syms:List (List UInt8):=[[38,38],[124,124],[45,62],[61,61],[33,61],[60,61],[62,61],[58,58],[40],[41],[33],[60],[62],[43],[45]]
/-- the symbol that begins a text -/
def gO (l:List (List UInt8)) (s:List UInt8):List UInt8:=match l with
 |[]=>[]
 |x::l=>if eP s x then x else gO l s
def d8 (s:List UInt8):List UInt8:=gO syms s
/-- the word that begins a text -/
def bJ (s:List UInt8):List UInt8:=s.takeWhile bW
abbrev Tok:=Nat × List UInt8 × Nat
/-- kind and text of the token that begins a text -/
def eY (s:List UInt8):Option (Nat × List UInt8) :=
 match bJ s with
 |[]=>match d8 s with
  |[]=>none
  |x=>some (3,x)
 |c::w=>if bC c then some (2,c::w) else if (lit (c::w)).isSome then some (1,c::w) else none
/-- the tokens up to the end, or up to the first error and its index -/
def cn:Nat→List UInt8→Nat→List Tok × Option Nat
 |0,_,_=>([],none)
 |_+1,[],_=>([],none)
 |f+1,c::r,k=>if c=32 then cn f r (k+1) else match eY (c::r) with
  |none=>([],some k)
  |some (kd,x)=>((kd,x,k)::(cn f ((c::r).drop x.length) (k+x.length)).1,(cn f ((c::r).drop x.length) (k+x.length)).2)
theorem tq {s:List UInt8}:∀ {l:List (List UInt8)},(∀ x∈l,x≠[])→gO l s≠[]→gO l s∈l∧eP s (gO l s)=true
 |[],_,h=>absurd rfl h
 |x::l,hl,h=>by
  unfold gO at h ⊢
  by_cases hx:eP s x=true
  ·rw [if_pos hx];exact ⟨List.mem_cons_self,hx⟩
  ·rw [if_neg hx] at h ⊢
   obtain ⟨h1,h2⟩:=tq (fun y hy=>hl y (List.mem_cons_of_mem _ hy)) h
   exact ⟨List.mem_cons_of_mem _ h1,h2⟩
theorem zh:∀ x∈syms,x≠[]:=by decide
theorem vY {s p:List UInt8} (h:eP s p=true):p.length≤s.length∧s.take p.length=p:=by
 have h2:=eq_of_beq h
 have:=congrArg List.length h2
 rw [List.length_take] at this
 exact ⟨by omega,h2⟩
theorem gV {p:UInt8→Bool}:∀ (s:List UInt8),s.take (s.takeWhile p).length=s.takeWhile p
 |[]=>rfl
 |c::s=>by
  by_cases h:p c=true
  ·rw [List.takeWhile_cons_of_pos h,yaz,yaq,gV s]
  ·rw [List.takeWhile_cons_of_neg h];rfl
/-- a token's text is what it is cut out of, and is not empty -/
theorem iB {s:List UInt8} {kd:Nat} {x:List UInt8} (h:eY s=some (kd,x)):x≠[]∧x.length≤s.length∧s.take x.length=x:=by
 unfold eY at h
 split at h
 ·split at h
  ·cases h
  ·rename_i y hy
   injection h with h
   injection h with h1 h2
   subst h2
   obtain ⟨_,h4⟩:=tq zh (s:=s) hy
   exact ⟨hy,vY h4⟩
 ·rename_i c w hw
  have hx:x=c::w:=by
   split at h
   ·injection h with h;injection h with h1 h2;exact h2.symm
   ·split at h
    ·injection h with h;injection h with h1 h2;exact h2.symm
    ·cases h
  subst hx
  refine ⟨by simp,?_,?_⟩
  ·rw [← hw];exact (List.takeWhile_sublist _).length_le
  ·rw [← hw];exact gV s
theorem eo:∀ (f g:Nat) (s:List UInt8) (k:Nat),s.length≤f→s.length≤g→cn f s k=cn g s k
 |0,0,_,_,_,_=>rfl
 |0,g+1,s,k,h,_=>by
  have:s=[]:=List.eq_nil_of_length_eq_zero (by omega)
  subst this;rfl
 |f+1,0,s,k,_,h=>by
  have:s=[]:=List.eq_nil_of_length_eq_zero (by omega)
  subst this;rfl
 |f+1,g+1,[],k,_,_=>rfl
 |f+1,g+1,c::r,k,h1,h2=>by
  simp only [yaz] at h1 h2
  unfold cn
  split
  ·exact eo f g r (k+1) (by omega) (by omega)
  ·split
   ·rfl
   ·rename_i kd x hx
    obtain ⟨h3,h4,_⟩:=iB hx
    have h5:0<x.length:=List.length_pos_iff.2 h3
    have e:=eo f g ((c::r).drop x.length) (k+x.length) (by rw [List.length_drop,yaz];omega) (by rw [List.length_drop,yaz];omega)
    rw [e]
/-- the tokens of what lies behind place k -/
def rest (s:List UInt8) (k:Nat):List Tok × Option Nat:=cn s.length (s.drop k) k
theorem xC {s:List UInt8} {k:Nat} (h:s.length≤k):rest s k=([],none):=by
 unfold rest
 rw [ybf h]
 cases s.length<;>rfl
theorem s8 {s:List UInt8} {k:Nat} (h:k<s.length) (h2:s[k]=32):rest s k=rest s (k+1):=by
 unfold rest
 obtain ⟨f,hf⟩:∃ f,s.length=f+1:=⟨s.length - 1,by omega⟩
 rw [List.drop_eq_getElem_cons h,h2]
 rw [hf]
 show cn (f+1) (32::s.drop (k+1)) k=_
 rw [cn,if_pos rfl]
 exact eo _ _ _ _ (by rw [List.length_drop];omega) (by rw [List.length_drop];omega)
theorem rz {s:List UInt8} {k:Nat} (h:k<s.length) (h2:s[k]≠32) (h3:eY (s.drop k)=none):rest s k=([],some k):=by
 unfold rest
 obtain ⟨f,hf⟩:∃ f,s.length=f+1:=⟨s.length - 1,by omega⟩
 rw [List.drop_eq_getElem_cons h] at h3 ⊢
 rw [hf]
 rw [cn,if_neg h2,h3]
theorem yh {s:List UInt8} {k kd:Nat} {x:List UInt8} (h:k<s.length) (h2:s[k]≠32) (h3:eY (s.drop k)=some (kd,x)) :
 rest s k=((kd,x,k)::(rest s (k+x.length)).1,(rest s (k+x.length)).2):=by
 obtain ⟨g1,g2,_⟩:=iB h3
 have g3:0<x.length:=List.length_pos_iff.2 g1
 rw [List.length_drop] at g2
 unfold rest
 obtain ⟨f,hf⟩:∃ f,s.length=f+1:=⟨s.length - 1,by omega⟩
 have e:cn f ((s.drop k).drop x.length) (k+x.length)=cn s.length (s.drop (k+x.length)) (k+x.length):=by
  rw [List.drop_drop]
  exact eo _ _ _ _ (by rw [List.length_drop];omega) (by rw [List.length_drop];omega)
 rw [← e,hf]
 rw [List.drop_eq_getElem_cons h] at h3 ⊢
 rw [cn,if_neg h2,h3]
/-- all tokens, index and error of a text -/
def bh (s:List UInt8):List Tok × Nat × Nat:=if 400<s.length then ([],0,3) else match rest s 0 with
 |(l,none)=>(l,0,0)
 |(_,some k)=>([],k,10)
end Go.AL
open Go Go.AL Go.Proofs
namespace Go.AL
set_option linter.all false
set_option maxRecDepth 10000
end Go.AL
open Go Go.AL Go.Proofs
namespace Go.AL
set_option linter.all false
set_option maxRecDepth 10000
theorem yY:ti Try.prog 157=some ⟨.struct [(0,3,false),(1,9,false),(2,3,false)],3,32,.agg [.int .i64 0,.str [],.int .i64 0]⟩:=by kernel_rfl
theorem wK:ti Try.prog 114=some ⟨.slice 157,1,24,.slice .nil 1 []⟩:=by kernel_rfl
theorem uw:ti Try.prog 74=some ⟨.int .i64,1,8,.int .i64 0⟩:=by kernel_rfl
attribute [go_sem] yY wK uw
theorem tG {t:Bool} {A B:Prop} (e:t=false) (h:B):gr t A B:=bL (fun h=>by simp [e] at h) (fun _=>h)
theorem p8 {P:Program} {Ω:Tbl} {K:Conts} {t:Bool} {a b:Code} {fr:Fr} {H:AHeap} (e:t=false) (h:aw P Ω b K fr H):iT P Ω (.bool t) a b K fr H:=al (fun h=>by simp [e] at h) (fun _=>h)
/-- a row of texts -/
def sAV (l:List (List UInt8)):List AV:=l.map .str
theorem aj {l:List (List UInt8)}:(sAV l).length=l.length:=by simp [sAV]
theorem pF {l:List (List UInt8)} {i:Nat} (h:i<l.length):(sAV l).getD i .junk=.str (l.getD i []):=by simp [sAV,List.getD_eq_getElem?_getD,h]
theorem eM {n sz:Nat} {l:List AV} (h:∀ x∈l,AV.lt n x):AV.lt n (.slice .any sz l):=by
 rw [AV.lt]
 exact ⟨fun id e=>(by cases e),fun j hj=>h _ (List.getElem_mem hj)⟩
theorem eE {n:Nat} {l:List (List UInt8)}:AV.lt n (.slice .any 1 (sAV l)):=eM fun x hx=>by
 obtain ⟨s,_,rfl⟩:=List.mem_map.1 hx
 simp only [znd]
theorem Bv:[AV.str [38,38],.str [124,124],.str [45,62],.str [61,61],.str [33,61],.str [60,61],.str [62,61],.str [58,58],.str [40],.str [41],.str [33],.str [60],.str [62],.str [43],.str [45]]=sAV syms:=rfl
theorem hU:syms.length=15:=rfl
/-- tokens in memory -/
def pE (t:Tok):AV:=.agg [.int .i64 (t.1:Int),.str t.2.1,.int .i64 (t.2.2:Int)]
def cm (l:List Tok):List AV:=l.map pE
theorem aS {l:List Tok}:(cm l).length=l.length:=by simp [cm]
theorem Ax {l:List Tok} {x:List UInt8} {k:Nat}:cm l++[.agg [.int .i64 1,.str x,.int .i64 (k:Int)]]=cm (l++[(1,x,k)]):=by simp [cm,pE]
theorem Az {l:List Tok} {x:List UInt8} {k:Nat}:cm l++[.agg [.int .i64 2,.str x,.int .i64 (k:Int)]]=cm (l++[(2,x,k)]):=by simp [cm,pE]
theorem AU {l:List Tok} {x:List UInt8} {k:Nat}:cm l++[.agg [.int .i64 3,.str x,.int .i64 (k:Int)]]=cm (l++[(3,x,k)]):=by simp [cm,pE]
theorem sa {k1 k2:IntKind} {a c:Int} {b:List UInt8}:(∀ z,z∈[AV.agg [.int k1 a,.str b,.int k2 c]]→aM z.cells=true)=True:=eq_true fun z hz=>by
 rw [List.mem_singleton.1 hz]
 simp [zim,zgm,zgn,zgo,zgq]
theorem cp {H Hc:AHeap} {i:Nat} {o:AObj} (h:H.Le Hc) (hi:H.nx≤i):H.Le (Hc.set i o):=⟨h.nx,fun j x hj=>by
 have:=AHeap.get_lt hj
 rw [AHeap.get_set_ne _ _ (by omega)]
 exact h.get j x hj⟩
theorem ge:cm []=[]:=rfl
theorem zj {n:Nat} {l:List Tok}:AV.lt n (.slice .any 3 (cm l)):=eM fun x hx=>by
 obtain ⟨s,_,rfl⟩:=List.mem_map.1 hx
 simp only [pE,znn,znq,znr,znb,znd,and_true]
theorem yn {n:Nat} {l:List Tok}:ltL n (cm l):=ltL_iff.2 fun j hj=>by
 simp only [cm,List.getElem_map,pE,znn,znq,znr,znb,znd,and_true]
theorem kT {n id:Nat} {l:List Tok} (h:id<n):AV.lt n (.slice (.own id) 3 (cm l)):=by
 rw [cg]
 exact ⟨fun i e=>by cases e;exact h,yn⟩
def p6 (s:List UInt8):AV:=.tup [.slice .any 3 (cm (bh s).1),.int .i64 ((bh s).2.1:Int),.int .i64 ((bh s).2.2:Int)]
def fH:List AV→AHeap→(AV→Prop)→Prop
 |[.str s,.str p],_,K=>K (.bool (eP s p))
 |_,_,_=>False
theorem jI:EntOk Try.prog 50 (Ent.pure fH):=by
 refine EntOk.pure fun args H K h=>?_
 unfold fH at h
 split at h
 rotate_left
 ·exact h.elim
 rename_i s p
 refine ⟨_,h,?_⟩
 clear h
 refine ACalls.fW ay (TblOk.cons iU TblOk.nil) Try.func50 [.tmp 4] (Nat.le_refl _) (T:=ap []) (h:=fun hcl hlt=>?_)
 clear hlt
 simp only [go_sem,eV]
 simp (disch:=first|assumption|omega|(simp;done)|(simp;omega)|(simp only [bt,and_true];first|done|omega|(simp;done))) [↓zmk,beq,ybc,ybd,ybe,ae,wk,wk2,wk1,wkM,wkL,ai,ybf,hcl]
def jf:List AV→AHeap→(AV→Prop)→Prop
 |[],_,K=>K (.slice .any 1 (sAV syms))
 |_,_,_=>False
theorem qh:EntOk Try.prog 70 (Ent.pure jf):=by
 refine EntOk.pure fun args H K h=>?_
 unfold jf at h
 split at h
 rotate_left
 ·exact h.elim
 refine ⟨_,h,?_⟩
 clear h
 refine ACalls.fW ay TblOk.nil Try.func70 [.tmp 0] (Nat.le_refl _) (T:=ap []) (h:=fun hcl hlt=>?_)
 clear hlt
 simp only [go_sem,Bv]
 simp (disch:=first|assumption|omega|(simp;done)|(simp;omega)|(simp only [bt,and_true];first|done|omega|(simp;done))) [↓zmk,beq,ybc,ybd,ybe,ae,wk,wk2,wk1,wkM,wkL,ai,ybf,hcl,eE]
theorem uq {x:List UInt8} {l:List (List UInt8)} {s:List UInt8}:gO (x::l) s=if eP s x then x else gO l s:=by rw [gO]
def ky:List AV→AHeap→(AV→Prop)→Prop
 |[.str s],_,K=>K (.str (d8 s))
 |_,_,_=>False
theorem sM:EntOk Try.prog 51 (Ent.pure ky):=by
 refine EntOk.pure fun args H K h=>?_
 unfold ky at h
 split at h
 rotate_left
 ·exact h.elim
 rename_i s
 refine ⟨_,h,?_⟩
 clear h
 refine ACalls.fW ay (TblOk.cons qh (TblOk.cons jI TblOk.nil)) Try.func51 [.tmp 2] (Nat.le_refl _) (T:=ap []) (h:=fun hcl hlt=>?_)
 clear hlt
 simp only [go_sem,jf,aj]
 refine aJ (A:=Nat) (fun k=>[(0,.str s),(5,.slice .any 1 (sAV syms)),(6,.int .i64 15),(7,.int .i64 (k:Int))]) (fun k=>H) (fun k=>k≤15∧d8 s=gO (syms.drop k) s) (fun k=>15 - k) 0 ⟨by omega,rfl⟩ ?_ fun k hk=>?_
 ·(simp only [bkq,enterW,bn,ltF,ne_eq,Nat.reduceEqDiff,reduceCtorEq,eE,hU];try simp (disch:=first|assumption|omega|(simp;done)|(simp;omega)|(simp only [bt,and_true];first|done|omega|(simp;done))) [↓zmk,beq,ybc,ybd,ybe,ae,wk,wk2,wk1,wkM,wkL,ai,ybf,byq,biq,ak,hcl,eE,hU];try (repeat' (first|assumption|omega|exact True.intro|refine And.intro ?_ ?_|refine af ?_|refine aa ?_|refine ac ?_ ?_|refine ag ?_ ?_|refine ah ?_|exact AHeap.Le.refl _|refine AHeap.Le.push ?_ _|refine AHeap.Le.del ?_ ?_|(simp only [bt,and_true,true_and,eE,hU];first|done|omega|(simp;done)))))
 obtain ⟨hk,hs⟩:=hk
 simp only [go_sem]
 refine al (fun h1=>?_) (fun h1=>?_)
 ·have hk2:k<15:=by simp at h1;omega
  have hk1:k<syms.length:=by rw [hU];exact hk2
  have hg:(sAV syms).getD k .junk=.str (syms.getD k []):=pF hk1
  have e5:IntKind.i64.wrap ((k:Int)+1)=((k+1:Nat):Int):=by rw [wrap_i64]<;>omega
  have hgk:syms.getD k []=syms[k]:=by simp [List.getD_eq_getElem?_getD,hk1]
  rw [List.drop_eq_getElem_cons hk1,uq] at hs
  rw [hgk] at hg
  generalize syms[k]=x at *
  simp only [go_sem,Int.toNat_natCast,aj,hU,hg,fH,e5]
  refine ⟨by omega,al (fun h2=>?_) (fun h2=>?_)⟩
  ·rw [if_pos h2] at hs
   simp only [go_sem,hs]
   simp (disch:=first|assumption|omega|(simp;done)|(simp;omega)|(simp only [bt,and_true];first|done|omega|(simp;done))) [↓zmk,beq,ybc,ybd,ybe,ae,wk,wk2,wk1,wkM,wkL,ai,ybf,hcl]
  ·rw [if_neg (by simp [h2])] at hs
   simp only [go_sem,e5]
   refine ⟨k+1,⟨by omega,hs⟩,by omega,?_⟩
   (simp only [bkq,enterW,bn,ltF,ne_eq,Nat.reduceEqDiff,reduceCtorEq,eE];try simp (disch:=first|assumption|omega|(simp;done)|(simp;omega)|(simp only [bt,and_true];first|done|omega|(simp;done))) [↓zmk,beq,ybc,ybd,ybe,ae,wk,wk2,wk1,wkM,wkL,ai,ybf,byq,biq,ak,hcl,eE];try (repeat' (first|assumption|omega|exact True.intro|refine And.intro ?_ ?_|refine af ?_|refine aa ?_|refine ac ?_ ?_|refine ag ?_ ?_|refine ah ?_|exact AHeap.Le.refl _|refine AHeap.Le.push ?_ _|refine AHeap.Le.del ?_ ?_|(simp only [bt,and_true,true_and,eE];first|done|omega|(simp;done)))))
 ·have hk1:k=15:=by simp at h1;omega
  subst hk1
  have h0:d8 s=[]:=by rw [hs];rfl
  simp only [go_sem,h0]
  simp (disch:=first|assumption|omega|(simp;done)|(simp;omega)|(simp only [bt,and_true];first|done|omega|(simp;done))) [↓zmk,beq,ybc,ybd,ybe,ae,wk,wk2,wk1,wkM,wkL,ai,ybf,hcl]
def iH:List AV→AHeap→(AV→Prop)→Prop
 |[x],_,K=>∃ c,x=bg c∧K (.bool (bC c))
 |_,_,_=>False
theorem mS:EntOk Try.prog 53 (Ent.pure iH):=by
 refine EntOk.pure fun args H K h=>?_
 unfold iH at h
 split at h
 rotate_left
 ·exact h.elim
 obtain ⟨c,rfl,hK⟩:=h
 refine ⟨_,hK,?_⟩
 clear hK
 refine ACalls.fW ay TblOk.nil Try.func53 [.tmp 2] (Nat.le_refl _) (T:=ap []) (h:=fun hcl hlt=>?_)
 clear hlt
 simp only [go_sem,bg]
 refine bL (fun h1=>?_) (fun h1=>?_)
 ·have e:bC c=decide ((c.toNat:Int)≤122):=by unfold bC;rw [Bool.eq_iff_iff];simp at h1 ⊢;omega
  simp only [go_sem,e]
  simp (disch:=first|assumption|omega|(simp;done)|(simp;omega)|(simp only [bt,and_true];first|done|omega|(simp;done))) [↓zmk,beq,ybc,ybd,ybe,ae,wk,wk2,wk1,wkM,wkL,ai,ybf,hcl]
 ·have e:bC c=false:=by unfold bC;rw [Bool.eq_iff_iff];simp at h1 ⊢;omega
  simp only [go_sem,e]
  simp (disch:=first|assumption|omega|(simp;done)|(simp;omega)|(simp only [bt,and_true];first|done|omega|(simp;done))) [↓zmk,beq,ybc,ybd,ybe,ae,wk,wk2,wk1,wkM,wkL,ai,ybf,hcl]
def oG:List AV→AHeap→(AV→Prop)→Prop
 |[x],_,K=>∃ c,x=bg c∧K (.bool (bW c))
 |_,_,_=>False
theorem yr:EntOk Try.prog 71 (Ent.pure oG):=by
 refine EntOk.pure fun args H K h=>?_
 unfold oG at h
 split at h
 rotate_left
 ·exact h.elim
 obtain ⟨c,rfl,hK⟩:=h
 refine ⟨_,hK,?_⟩
 clear hK
 refine ACalls.fW ay (TblOk.cons mS TblOk.nil) Try.func71 [.tmp 2] (Nat.le_refl _) (T:=ap []) (h:=fun hcl hlt=>?_)
 clear hlt
 simp only [go_sem,iH]
 refine ⟨c,rfl,?_⟩
 simp only [go_sem,bg]
 have e95:(((c.toNat:Nat):Int)==95)=(c==95):=by rw [Bool.eq_iff_iff];simp [← UInt8.toNat_inj];omega
 rw [e95]
 refine bL (fun h1=>?_) (fun h1=>?_)
 ·have e:bW c=true:=by unfold bW;rw [h1];rfl
  simp only [go_sem,e]
  simp (disch:=first|assumption|omega|(simp;done)|(simp;omega)|(simp only [bt,and_true];first|done|omega|(simp;done))) [↓zmk,beq,ybc,ybd,ybe,ae,wk,wk2,wk1,wkM,wkL,ai,ybf,hcl]
 ·refine bL (fun h2=>?_) (fun h2=>?_)
  ·have h2':48≤c.toNat:=by simp at h2;omega
   refine bL (fun h3=>?_) (fun h3=>?_)
   ·have h3':c.toNat≤57:=by simp at h3;omega
    have e:bW c=true:=by unfold bW;rw [decide_eq_true h2',decide_eq_true h3'];simp
    simp only [go_sem,e]
    simp (disch:=first|assumption|omega|(simp;done)|(simp;omega)|(simp only [bt,and_true];first|done|omega|(simp;done))) [↓zmk,beq,ybc,ybd,ybe,ae,wk,wk2,wk1,wkM,wkL,ai,ybf,hcl]
   ·have h3':¬ c.toNat≤57:=by simp at h3;omega
    have e:bW c=(c==95):=by unfold bW;rw [decide_eq_false h3',h1];simp
    simp only [go_sem,e]
    simp (disch:=first|assumption|omega|(simp;done)|(simp;omega)|(simp only [bt,and_true];first|done|omega|(simp;done))) [↓zmk,beq,ybc,ybd,ybe,ae,wk,wk2,wk1,wkM,wkL,ai,ybf,hcl]
  ·have h2':¬ 48≤c.toNat:=by simp at h2;omega
   have e:bW c=(c==95):=by unfold bW;rw [decide_eq_false h2',h1];simp
   simp only [go_sem,e]
   simp (disch:=first|assumption|omega|(simp;done)|(simp;omega)|(simp only [bt,and_true];first|done|omega|(simp;done))) [↓zmk,beq,ybc,ybd,ybe,ae,wk,wk2,wk1,wkM,wkL,ai,ybf,hcl]
theorem kJ {s:List UInt8} {k:Nat} (h:k<s.length):bJ (s.drop k)=if bW (s.getD k 0) then s.getD k 0::bJ (s.drop (k+1)) else []:=by
 have e:s.getD k 0=s[k]:=by simp [List.getD_eq_getElem?_getD,h]
 rw [e,List.drop_eq_getElem_cons h]
 unfold bJ
 by_cases hp:bW s[k]=true
 ·rw [if_pos hp,List.takeWhile_cons_of_pos hp]
 ·rw [if_neg hp,List.takeWhile_cons_of_neg hp]
theorem t9 {s:List UInt8} {k:Nat} (h:k<s.length) (hp:bW (s.getD k 0)=true) (hw:bJ s=s.take k++bJ (s.drop k)):bJ s=s.take (k+1)++bJ (s.drop (k+1)):=by
 have e:s.getD k 0=s[k]:=by simp [List.getD_eq_getElem?_getD,h]
 rw [kJ h,if_pos hp,e] at hw
 rw [hw,List.take_succ_eq_append_getElem h,List.append_assoc];rfl
theorem qd {s:List UInt8} {k:Nat} (h:k<s.length) (hp:bW (s.getD k 0)=false) (hw:bJ s=s.take k++bJ (s.drop k)):bJ s=s.take k:=by
 rw [kJ h,if_neg (by rw [hp];decide),yaj] at hw
 exact hw
theorem sL {s:List UInt8} {k:Nat} (h:¬ k<s.length) (hw:bJ s=s.take k++bJ (s.drop k)):bJ s=s.take k:=by
 rw [ybf (by omega)] at hw
 simpa [bJ] using hw
def pL:List AV→AHeap→(AV→Prop)→Prop
 |[.str s],_,K=>s.length≤140737488355328∧K (.str (bJ s))
 |_,_,_=>False
theorem xM:EntOk Try.prog 52 (Ent.pure pL):=by
 refine EntOk.pure fun args H K h=>?_
 unfold pL at h
 split at h
 rotate_left
 ·exact h.elim
 rename_i s
 obtain ⟨hsl,hK⟩:=h
 refine ⟨_,hK,?_⟩
 clear hK
 refine ACalls.fW ay (TblOk.cons yr TblOk.nil) Try.func52 [.tmp 2] (Nat.le_refl _) (T:=ap []) (h:=fun hcl hlt=>?_)
 clear hlt
 simp only [go_sem]
 refine aJ (A:=Nat) (fun k=>[(0,.str s),(3,.int .i64 (k:Int))]) (fun k=>H) (fun k=>k≤s.length∧bJ s=s.take k++bJ (s.drop k)) (fun k=>s.length - k) 0 ⟨by omega,by simp⟩ ?_ fun k hk=>?_
 ·(simp only [bkq,enterW,bn,ltF,ne_eq,Nat.reduceEqDiff,reduceCtorEq];try simp (disch:=first|assumption|omega|(simp;done)|(simp;omega)|(simp only [bt,and_true];first|done|omega|(simp;done))) [↓zmk,beq,ybc,ybd,ybe,ae,wk,wk2,wk1,wkM,wkL,ai,ybf,byq,biq,ak,hcl];try (repeat' (first|assumption|omega|exact True.intro|refine And.intro ?_ ?_|refine af ?_|refine aa ?_|refine ac ?_ ?_|refine ag ?_ ?_|refine ah ?_|exact AHeap.Le.refl _|refine AHeap.Le.push ?_ _|refine AHeap.Le.del ?_ ?_|(simp only [bt,and_true,true_and];first|done|omega|(simp;done)))))
 obtain ⟨hk,hs⟩:=hk
 simp only [go_sem]
 refine bL (fun h1=>?_) (fun h1=>?_)
 ·have hk1:k<s.length:=by simp at h1;omega
  have e5:IntKind.i64.wrap ((k:Int)+1)=((k+1:Nat):Int):=by rw [wrap_i64]<;>omega
  simp only [go_sem,oG,Int.toNat_natCast]
  refine ⟨by omega,s.getD k 0,rfl,?_⟩
  refine al (fun h2=>?_) (fun h2=>?_)
  ·simp only [go_sem,e5]
   refine ⟨k+1,⟨by omega,t9 hk1 h2 hs⟩,by omega,?_⟩
   (simp only [bkq,enterW,bn,ltF,ne_eq,Nat.reduceEqDiff,reduceCtorEq];try simp (disch:=first|assumption|omega|(simp;done)|(simp;omega)|(simp only [bt,and_true];first|done|omega|(simp;done))) [↓zmk,beq,ybc,ybd,ybe,ae,wk,wk2,wk1,wkM,wkL,ai,ybf,byq,biq,ak,hcl];try (repeat' (first|assumption|omega|exact True.intro|refine And.intro ?_ ?_|refine af ?_|refine aa ?_|refine ac ?_ ?_|refine ag ?_ ?_|refine ah ?_|exact AHeap.Le.refl _|refine AHeap.Le.push ?_ _|refine AHeap.Le.del ?_ ?_|(simp only [bt,and_true,true_and];first|done|omega|(simp;done)))))
  ·have hw:=qd hk1 h2 hs
   simp only [go_sem,Int.toNat_natCast,hw]
   refine ⟨by omega,?_⟩
   simp (disch:=first|assumption|omega|(simp;done)|(simp;omega)|(simp only [bt,and_true];first|done|omega|(simp;done))) [↓zmk,beq,ybc,ybd,ybe,ae,wk,wk2,wk1,wkM,wkL,ai,ybf,hcl]
 ·have hk1:¬ k<s.length:=by simp at h1;omega
  have hw:=sL hk1 hs
  try simp only [go_sem,Int.toNat_natCast,hw,zau]
  refine ⟨by omega,?_⟩
  simp (disch:=first|assumption|omega|(simp;done)|(simp;omega)|(simp only [bt,and_true];first|done|omega|(simp;done))) [↓zmk,beq,ybc,ybd,ybe,ae,wk,wk2,wk1,wkM,wkL,ai,ybf,hcl]
def lA:List AV→AHeap→(AV→Prop)→Prop
 |[.str s],_,K=>s.length≤140737488355328∧K (p6 s)
 |_,_,_=>False
theorem lz {s:List UInt8} {k:Nat} {x:List UInt8} {kd:Nat} (h:k<s.length) (h3:eY (s.drop k)=some (kd,x)):x≠[]∧k+x.length≤s.length:=by
 obtain ⟨g1,g2,_⟩:=iB h3
 rw [List.length_drop] at g2
 exact ⟨g1,by omega⟩
theorem vr {s:List UInt8} {l:List Tok} (h:¬ 400<s.length) (e:rest s 0=(l,none)):bh s=(l,0,0):=by unfold bh;rw [if_neg h,e]
theorem nC {s:List UInt8} {l:List Tok} {k:Nat} (h:¬ 400<s.length) (e:rest s 0=(l,some k)):bh s=([],k,10):=by unfold bh;rw [if_neg h,e]
theorem vj {s:List UInt8} (h:bJ s=[]) (h2:d8 s=[]):eY s=none:=by unfold eY;rw [h,h2]
theorem w4 {s y:List UInt8} (h:bJ s=[]) (h2:d8 s=y) (hy:y≠[]):eY s=some (3,y):=by
 unfold eY;rw [h,h2];cases y with
 |nil=>exact absurd rfl hy
 |cons a b=>rfl
theorem xe {s w:List UInt8} {c:UInt8} (h:bJ s=c::w) (h2:bC c=true):eY s=some (2,c::w):=by unfold eY;rw [h];dsimp only;rw [if_pos h2]
theorem xY {s w:List UInt8} {c:UInt8} {n:Nat} (h:bJ s=c::w) (h2:bC c=false) (h3:lit (c::w)=some n):eY s=some (1,c::w):=by
 unfold eY;rw [h];dsimp only;rw [if_neg (by rw [h2];decide),h3];rfl
theorem ye {s w:List UInt8} {c:UInt8} (h:bJ s=c::w) (h2:bC c=false) (h3:lit (c::w)=none):eY s=none:=by
 unfold eY;rw [h];dsimp only;rw [if_neg (by rw [h2];decide),h3];rfl
theorem pP {s:List UInt8} {pre:List Tok} {k kd id:Nat} {x:List UInt8} {H Hd:AHeap} {fr:Fr} (hk:k<s.length) (hc:s[k]≠32) (ht:eY (s.drop k)=some (kd,x)) (hpl:pre.length≤k)
 (hr:rest s 0=(pre++(rest s k).1,(rest s k).2)) (hle:H.Le Hd) (hcd:Hd.Closed) (hid:H.nx≤id) (hg:Hd.get id=some (.buf 3 (pre.length+1)))
 (f0:Fr.get fr 0=.str s) (f5:Fr.get fr 5=.slice (.own id) 3 (cm (pre++[(kd,x,k)]))) (f6:Fr.get fr 6=.int .i64 ((k+x.length:Nat):Int)) :
 ∃ a':Nat × List Tok × Nat × AHeap,((a'.1≤s.length∧a'.2.1.length≤a'.1∧rest s 0=(a'.2.1++(rest s a'.1).1,(rest s a'.1).2))∧H.Le a'.2.2.2∧a'.2.2.2.Closed∧H.nx≤a'.2.2.1∧a'.2.2.2.get a'.2.2.1=some (.buf 3 a'.2.1.length)) ∧
  s.length - a'.1<s.length - k∧enterW H.nx fr Hd [(0,.str s),(5,.slice (.own a'.2.2.1) 3 (cm a'.2.1)),(6,.int .i64 (a'.1:Int))] a'.2.2.2:=by
 obtain ⟨hy1,hy2⟩:=lz hk ht
 have hyl:0<x.length:=List.length_pos_iff.2 hy1
 have hid2:id<Hd.nx:=AHeap.get_lt hg
 refine ⟨(k+x.length,pre++[(kd,x,k)],id,Hd),⟨⟨hy2,?_,?_⟩,hle,hcd,hid,?_⟩,?_,hle.nx,AHeap.Le.refl _,hcd,?_,?_⟩
 ·simp;omega
 ·rw [hr,yh hk hc ht,List.append_assoc];rfl
 ·rw [hg];simp
 ·dsimp only;omega
 ·simp only [ltF,znd,znb,true_and,and_true]
  exact kT hid2
 ·simp [bn,wk2,wk1,wkM,f0,f5,f6]
theorem og {s:List UInt8} {k:Nat} (h:k<s.length):eP (s.drop k) [32]=(s[k]==32):=by
 unfold eP
 rw [List.drop_eq_getElem_cons h]
 generalize s.drop (k+1)=r
 rw [Bool.eq_iff_iff,beq_iff_eq,beq_iff_eq]
 show [s[k]]=[32]↔_
 simp
set_option maxHeartbeats 2000000 in
theorem wH:EntOk Try.prog 37 (Ent.pure lA):=by
 refine EntOk.pure fun args H K h=>?_
 unfold lA at h
 split at h
 rotate_left
 ·exact h.elim
 rename_i s
 obtain ⟨hsl,hK⟩:=h
 refine ⟨_,hK,?_⟩
 clear hK
 refine ACalls.fW ay (TblOk.cons jI (TblOk.cons sM (TblOk.cons xM (TblOk.cons mS (TblOk.cons kL TblOk.nil))))) Try.func37 [.tmp 2,.tmp 3,.tmp 4] (Nat.le_refl _) (T:=ap []) (h:=fun hcl hlt=>?_)
 clear hlt
 simp only [go_sem,p6]
 refine al (fun h1=>?_) (fun h1=>?_)
 ·have h1':400<s.length:=by simp at h1;omega
  have e:bh s=([],0,3):=by unfold bh;rw [if_pos h1']
  simp only [go_sem,e,ge]
  simp (disch:=first|assumption|omega|(simp;done)|(simp;omega)|(simp only [bt,and_true];first|done|omega|(simp;done))) [↓zmk,beq,ybc,ybd,ybe,ae,wk,wk2,wk1,wkM,wkL,ai,ybf,hcl,eM]
 have h1':¬ 400<s.length:=by simp at h1;omega
 simp only [go_sem]
 refine aJ (A:=Nat × List Tok × Nat × AHeap) (fun a=>[(0,.str s),(5,.slice (.own a.2.2.1) 3 (cm a.2.1)),(6,.int .i64 (a.1:Int))]) (fun a=>a.2.2.2)
  (fun a=>(a.1≤s.length∧a.2.1.length≤a.1∧rest s 0=(a.2.1++(rest s a.1).1,(rest s a.1).2))∧H.Le a.2.2.2∧a.2.2.2.Closed∧H.nx≤a.2.2.1∧a.2.2.2.get a.2.2.1=some (.buf 3 a.2.1.length))
  (fun a=>s.length - a.1) (0,[],H.nx+1,(H.push (.buf 3 0)).push (.buf 3 0)) ⟨⟨by omega,by simp,by simp⟩,?_,?_,by simp,?_⟩ ?_ fun a ha=>?_
 ·simp (disch:=first|assumption|omega|(simp;done)|(simp;omega)|(simp only [bt,and_true];first|done|omega|(simp;done))) [↓zmk,beq,ybc,ybd,ybe,ae,wk,wk2,wk1,wkM,wkL,ai,ybf,hcl]
 ·(repeat' (first|assumption|omega|exact True.intro|refine And.intro ?_ ?_|refine af ?_|refine aa ?_|refine ac ?_ ?_|refine ag ?_ ?_|refine ah ?_|exact AHeap.Le.refl _|refine AHeap.Le.push ?_ _|refine AHeap.Le.del ?_ ?_|(simp only [bt,and_true,true_and];first|done|omega|(simp;done))))
 ·exact AHeap.get_push_new _ _
 ·(simp only [bkq,enterW,bn,ltF,ne_eq,Nat.reduceEqDiff,reduceCtorEq,ge];try simp (disch:=first|assumption|omega|(simp;done)|(simp;omega)|(simp only [bt,and_true];first|done|omega|(simp;done))) [↓zmk,beq,ybc,ybd,ybe,ae,wk,wk2,wk1,wkM,wkL,ai,ybf,byq,biq,ak,hcl,ge];try (repeat' (first|assumption|omega|exact True.intro|refine And.intro ?_ ?_|refine af ?_|refine aa ?_|refine ac ?_ ?_|refine ag ?_ ?_|refine ah ?_|exact AHeap.Le.refl _|refine AHeap.Le.push ?_ _|refine AHeap.Le.del ?_ ?_|(simp only [bt,and_true,true_and,ge];first|done|omega|(simp;done)))))
 obtain ⟨k,pre,id,Hc⟩:=a
 obtain ⟨⟨hk,hpl,hr⟩,hle,hcc,hid,hst⟩:=ha
 dsimp only at hk hpl hr hle hcc hid hst ⊢
 have hnx:H.nx≤Hc.nx:=hle.nx
 have hid2:id<Hc.nx:=AHeap.get_lt hst
 simp only [go_sem]
 refine al (fun h2=>?_) (fun h2=>?_)
 ·have hk1:k<s.length:=by simp at h2;omega
  have e5:IntKind.i64.wrap ((k:Int)+1)=((k+1:Nat):Int):=by rw [wrap_i64]<;>omega
  simp only [go_sem,fH,Int.toNat_natCast,List.take_length]
  refine ⟨by omega,al (fun h3=>?_) (fun h3=>?_)⟩
  ·have hc:s[k]=32:=by rw [og hk1] at h3;simpa using h3
   rw [s8 hk1 hc] at hr
   simp only [go_sem,e5]
   refine ⟨(k+1,pre,id,Hc),⟨⟨by dsimp only;omega,by dsimp only;omega,hr⟩,hle,hcc,hid,hst⟩,by dsimp only;omega,?_⟩
   (simp only [bkq,enterW,bn,ltF,ne_eq,Nat.reduceEqDiff,reduceCtorEq,hcc,hnx,hid2];try simp (disch:=first|assumption|omega|(simp;done)|(simp;omega)|(simp only [bt,and_true];first|done|omega|(simp;done))) [↓zmk,beq,ybc,ybd,ybe,ae,wk,wk2,wk1,wkM,wkL,ai,ybf,byq,biq,ak,hcl,hcc,hnx,hid2];try (repeat' (first|assumption|omega|exact True.intro|refine And.intro ?_ ?_|refine af ?_|refine aa ?_|refine ac ?_ ?_|refine ag ?_ ?_|refine ah ?_|exact AHeap.Le.refl _|refine AHeap.Le.push ?_ _|refine AHeap.Le.del ?_ ?_|(simp only [bt,and_true,true_and,hcc,hnx,hid2];first|done|omega|(simp;done)))))
   exact kT hid2
  have n1:(id=Hc.nx)=False:=eq_false (by omega)
  have n2:(id=Hc.nx+1)=False:=eq_false (by omega)
  have n3:(id=Hc.nx+1+1)=False:=eq_false (by omega)
  have hc:s[k]≠32:=by rw [og hk1] at h3;simpa using h3
  have hsd:(s.drop k).length≤400:=by rw [List.length_drop];omega
  simp only [go_sem,ky,pL]
  refine ⟨by omega,?_⟩
  cases hw:bJ (s.drop k) with
  |nil =>
   have en:(([]:List UInt8) != [])=false:=rfl
   rcases Classical.em (d8 (s.drop k)=[]) with hy|hy
   ·have htk:=vj hw hy
    rw [rz hk1 hc htk,yaj] at hr
    have hsc:=nC h1' hr
    have eb:(([]:List UInt8)==[])=true:=rfl
    simp only [go_sem,hsc,hy,en,eb,zau,zat,ge]
    simp (disch:=first|assumption|omega|(simp;done)|(simp;omega)|(simp only [bt,and_true];first|done|omega|(simp;done))) [↓zmk,beq,ybc,ybd,ybe,ae,wk,wk2,wk1,wkM,wkL,ai,ybf,hcc,hle,hcl]
    exact (hle.push _).push _
   ·have htk:=w4 hw rfl hy
    have eb:(d8 (s.drop k)==[])=false:=by simpa using hy
    have eb0:(([]:List UInt8)==[])=true:=rfl
    obtain ⟨hy1,hy2⟩:=lz hk1 htk
    generalize d8 (s.drop k)=y at *
    have e6:IntKind.i64.wrap ((k:Int)+(y.length:Int))=((k+y.length:Nat):Int):=by rw [wrap_i64]<;>omega
    simp only [go_sem,en,eb,eb0,zau,zat,n1,n2,hst,aS,AU,e6,sa]
    refine ⟨by omega,pP hk1 hc htk hpl hr (((cp hle hid).push _).push _) ?_ hid ?_ rfl rfl rfl⟩
    ·exact af (ac (aa hcc) (by simp [znq,znr,znb,znd]))
    ·rw [AHeap.get_push_lt _ _ (by simp [AHeap.push,AHeap.set];omega),AHeap.get_push_lt _ _ (by simp [AHeap.set];omega),AHeap.get_set_same _ _ hid2]
  |cons c w =>
   have en:((c::w) != [])=true:=rfl
   have eb:((c::w)==[])=false:=rfl
   simp only [go_sem,en,eb,zat,iH]
   refine ⟨by omega,c,rfl,?_⟩
   cases hlc:bC c with
   |true =>
    have htk:=xe hw hlc
    obtain ⟨_,hy2⟩:=lz hk1 htk
    have e6:IntKind.i64.wrap ((k:Int)+((w.length+1:Nat):Int))=((k+(c::w).length:Nat):Int):=by
     rw [yaz] at hy2 ⊢
     rw [wrap_i64]<;>omega
    simp only [go_sem,en,eb,zau,zat,n1,n2,hst,aS,Az,e6,sa]
    refine ⟨by omega,pP hk1 hc htk hpl hr (((cp hle hid).push _).push _) ?_ hid ?_ rfl rfl rfl⟩
    ·exact af (ac (aa hcc) (by simp [znq,znr,znb,znd]))
    ·rw [AHeap.get_push_lt _ _ (by simp [AHeap.push,AHeap.set];omega),AHeap.get_push_lt _ _ (by simp [AHeap.set];omega),AHeap.get_set_same _ _ hid2]
   |false =>
    have hcw:(c::w).length≤400:=by rw [← hw];exact Nat.le_trans (List.takeWhile_sublist _).length_le hsd
    simp only [go_sem,en,eb,zau,zat,gF]
    cases hli:lit (c::w) with
    |none =>
     have htk:=ye hw hlc hli
     rw [rz hk1 hc htk,yaj] at hr
     have hsc:=nC h1' hr
     simp only [go_sem,hsc,ln,nAV,zau,zat,ge]
     refine ⟨by simp only [yaz] at hcw;omega,?_⟩
     simp (disch:=first|assumption|omega|(simp;done)|(simp;omega)|(simp only [bt,and_true];first|done|omega|(simp;done))) [↓zmk,beq,ybc,ybd,ybe,ae,wk,wk2,wk1,wkM,wkL,ai,ybf,hcc,hle,hcl]
     exact ((hle.push _).push _).push _
    |some n =>
     have htk:=xY hw hlc hli
     obtain ⟨_,hy2⟩:=lz hk1 htk
     have e6:IntKind.i64.wrap ((k:Int)+((w.length+1:Nat):Int))=((k+(c::w).length:Nat):Int):=by
      rw [yaz] at hy2 ⊢
      rw [wrap_i64]<;>omega
     simp only [go_sem,ln,nAV,zau,zat,n1,n2,n3,eb,hst,aS,Ax,e6,sa]
     refine ⟨by simp only [yaz] at hcw;omega,by omega,pP hk1 hc htk hpl hr ((((cp hle hid).push _).push _).push _) ?_ hid ?_ rfl rfl rfl⟩
     ·exact af (ac (ac (aa hcc) (by simp [znq,znr,znb,znd])) (by simp [znq,znr,znb,znd]))
     ·rw [AHeap.get_push_lt _ _ (by simp [AHeap.push,AHeap.set];omega),AHeap.get_push_lt _ _ (by simp [AHeap.push,AHeap.set];omega),AHeap.get_push_lt _ _ (by simp [AHeap.set];omega),AHeap.get_set_same _ _ hid2]
 ·have hk1:s.length≤k:=by simp at h2;omega
  rw [xC hk1,yaj] at hr
  have hsc:=vr h1' hr
  simp only [go_sem,hsc]
  simp (disch:=first|assumption|omega|(simp;done)|(simp;omega)|(simp only [bt,and_true];first|done|omega|(simp;done))) [↓zmk,beq,ybc,ybd,ybe,ae,wk,wk2,wk1,wkM,wkL,ai,ybf,hcc,hle,zj,hcl]
end Go.AL
open Go Go.AL Go.Proofs
namespace Go.AL
set_option linter.all false
set_option maxRecDepth 10000
end Go.AL
open Go Go.AL Go.Proofs
namespace Go.AL
set_option linter.all false
set_option maxRecDepth 10000
theorem wd:ti Try.prog 67=some ⟨.struct [(0,22,false),(1,3,false)],2,32,.agg [.slice .nil 1 [],.int .i64 0]⟩:=by kernel_rfl
attribute [go_sem] wd
theorem qE {H:AHeap} {i:Nat} {o:AObj} (h:H.get i=some o):(H.set i o).Le H:=⟨Nat.le_refl _,fun j x hj=>by
 rcases AHeap.get_set_inv _ _ hj with ⟨rfl,rfl,_⟩|⟨_,h2⟩
 ·exact h
 ·exact h2⟩
def jK:List AV→AHeap→(AV→Prop)→Prop
 |[.ptr id 0],H,K=>∃ b a,(H.get id=some (.cells [.slice .any 1 (bys b),.int .i64 a]))∧K (.bool (decide (a<(b.length:Int))))
 |_,_,_=>False
theorem xV:EntOk Try.prog 35 (Ent.pure jK):=by
 refine EntOk.pure fun args H K h=>?_
 unfold jK at h
 split at h
 rotate_left
 ·exact h.elim
 rename_i id
 obtain ⟨b,a,hg,hK⟩:=h
 refine ⟨_,hK,?_⟩
 clear hK
 refine ACalls.fW ay TblOk.nil Try.func35 [.tmp 2] (Nat.le_refl _) (T:=ap []) (h:=fun hcl hlt=>?_)
 clear hlt
 have hcs:=ax hg
 simp only [go_sem,hcs,zlg]
 simp (disch:=first|assumption|omega|(simp;done)|(simp;omega)|(simp only [bt,and_true];first|done|omega|(simp;done))) [↓zmk,beq,ybc,ybd,ybe,ae,wk,wk2,wk1,wkM,wkL,ai,ybf,hcl]
def cod (b:List UInt8) (a:Int):AObj:=.cells [.slice .any 1 (bys b),.int .i64 a]
def bK:List AV→AHeap→(AV→AHeap→Prop)→Prop
 |[.ptr id 0,.int .i64 n],H,K=>∃ b a,(H.get id=some (cod b a)∧(0≤a∧a≤(b.length:Int))∧b.length≤140737488355328∧1≤n∧n≤1000000) ∧
   ∀ r a',0≤r→r<n→0≤a'→a'≤(b.length:Int)→K (.int .i64 r) (H.set id (cod b a'))
 |_,_,_=>False
theorem jX:EntOk Try.prog 17 (Ent.some bK):=by
 refine EntOk.some fun args H K h=>?_
 unfold bK at h
 split at h
 rotate_left
 ·exact h.elim
 rename_i id n
 obtain ⟨b,a,⟨hg,⟨ha1,ha2⟩,hb,hn1,hn2⟩,hK⟩:=h
 refine ACallsP.of_aw (Ω:=[(35,Ent.pure jK)]) (T:=ap [(4,[[],[],[],[],[],[],[],[],[],[],[],[3,7,10]])]) ay (TblOk.cons xV TblOk.nil) Try.func17 (by kernel_rfl) (by rfl) (rs:=[.tmp 4]) (by rfl) (by kernel_rfl) (by simp only [Try.ntmps17,yaz,yba];decide) fun hcl hlt=>?_
 change aw _ _ _ (KI Try.prog [(35,Ent.pure jK)] (gR Try.prog [.tmp 4] H.nx _ (ap [(4,[[],[],[],[],[],[],[],[],[],[],[],[3,7,10]])])) []) _ _
 clear hlt
 have hcs:=ax hg
 have hid:=AHeap.get_lt hg
 simp only [go_sem,jK]
 refine ⟨b,a,hg,?_⟩
 have hcl2:∀ a',(H.set id (cod b a')).Closed:=fun a'=>ag hcl (by simp [znq,znr,znb,zmo])
 refine bL (fun h1=>?_) (fun h1=>al (fun h2=>by simp at h2;omega) (fun h2=>?_))
 ·refine ⟨_,_,hK 0 a (by omega) (by omega) ha1 ha2,Nat.le_refl _,?_⟩
  simp (disch:=first|assumption|omega|(simp;done)|(simp;omega)|(simp only [bt,and_true];first|done|omega|(simp;done))) [↓zmk,beq,ybc,ybd,ybe,ae,wk,wk2,wk1,wkM,wkL,ai,ybf,hcl2]
  exact qE hg
 have h1':a<(b.length:Int):=by simp at h1;omega
 obtain ⟨k,rfl⟩:=Int.eq_ofNat_of_zero_le ha1
 have hk:k<b.length:=by omega
 have e1:IntKind.i64.wrap ((k:Int)+1)=((k+1:Nat):Int):=by rw [wrap_i64]<;>omega
 have e2:IntKind.i64.wrap (((k+1:Nat):Int) - 1)=(k:Int):=by rw [wrap_i64]<;>omega
 have hgd:(bys b).getD k .junk=bg b[k]:=by rw [pK hk];simp [List.getD_eq_getElem?_getD,hk]
 have h8:=UInt8.toNat_lt b[k]
 have e3:IntKind.i64.wrap ((b[k].toNat:Nat):Int)=((b[k].toNat:Nat):Int):=by rw [wrap_i64]<;>omega
 simp only [go_sem,hcs,e1,dx hid,e2,Int.toNat_natCast,hgd,zlg,bg,e3]
 have ht:(((b[k].toNat:Nat):Int)).tmod n=((b[k].toNat:Nat):Int) % n:=Int.tmod_eq_emod_of_nonneg (by omega)
 have ht1:=Int.emod_nonneg ((b[k].toNat:Nat):Int) (show n≠0 by omega)
 have ht2:=Int.emod_lt_of_pos ((b[k].toNat:Nat):Int) (show 0<n by omega)
 rw [ht]
 refine ⟨by omega,by omega,_,_,hK _ ((k+1:Nat):Int) ht1 ht2 (by omega) (by omega),Nat.le_refl _,?_⟩
 simp (disch:=first|assumption|omega|(simp;done)|(simp;omega)|(simp only [bt,and_true];first|done|omega|(simp;done))) [↓zmk,beq,ybc,ybd,ybe,ae,wk,wk2,wk1,wkM,wkL,ai,ybf,hcl2,cod]
def pV:List AV→AHeap→(AEnd→AHeap→Prop)→Prop
 |[.slice m 1 l,.int .i64 n],H,K=>∃ b,(l=bys b∧0≤n)∧K (.ret (.ptr H.nx 0)) (H.push (cod (b.take (min (b.length:Int) n).toNat) 0))
 |_,_,_=>False
theorem yX:EntOk Try.prog 6 (Ent.effect pV):=by
 refine EntOk.effect fun args H K h=>?_
 unfold pV at h
 split at h
 rotate_left
 ·exact h.elim
 rename_i m l n
 obtain ⟨b,⟨rfl,hn⟩,hK⟩:=h
 refine ⟨_,_,hK,?_⟩
 clear hK
 refine ACalls.fW ay TblOk.nil Try.func6 [.tmp 4] (Nat.le_succ _) (T:=ap []) (h:=fun hcl hlt=>?_)
 clear hlt
 simp only [go_sem,zlg,yap,zli]
 refine ⟨by omega,?_⟩
 simp (disch:=first|assumption|omega|(simp;done)|(simp;omega)|(simp only [bt,and_true];first|done|omega|(simp;done))) [↓zmk,beq,ybc,ybd,ybe,ae,wk,wk2,wk1,wkM,wkL,ai,ybf,hcl,cod]
 (repeat' (first|assumption|omega|exact True.intro|refine And.intro ?_ ?_|refine af ?_|refine aa ?_|refine ac ?_ ?_|refine ag ?_ ?_|refine ah ?_|exact AHeap.Le.refl _|refine AHeap.Le.push ?_ _|refine AHeap.Le.del ?_ ?_|(simp only [bt,and_true,true_and,zmo];first|done|omega|(simp;done))))
theorem mod_lt {x n:Int} (hn:1≤n):0≤(x.tmod n+n).tmod n∧(x.tmod n+n).tmod n<n:=by
 have h1:=Int.lt_tmod_of_pos x (show 0<n by omega)
 rw [Int.tmod_eq_emod_of_nonneg (by omega)]
 exact ⟨Int.emod_nonneg _ (by omega),Int.emod_lt_of_pos _ (by omega)⟩
theorem yc {l:List Tok} {k:Nat} (h:k<l.length):(cm l).getD k .junk=pE l[k]:=by simp [cm,List.getD_eq_getElem?_getD,h]
end Go.AL
