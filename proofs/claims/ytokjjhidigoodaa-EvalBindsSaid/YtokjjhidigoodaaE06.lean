/- Contracts and plain laws, a part of the proof; no condition of its own. -/
import Derived.Test.YtokjjhidigoodaaN05d
open List renaming length_cons → yaz, take_succ_cons → yaq, drop_eq_nil_of_le → ybf, length_nil → yba, take_of_length_le → ybc, drop_append → ybd, take_append → ybe, append_nil → yaj, drop_zero → yap
/- Plain laws of tokens; the texts of literals are given as a function. -/
open Go Go.AL
namespace Go.AL
set_option linter.all false
def dX (c:UInt8):Bool:=decide (97≤c.toNat)&&decide (c.toNat≤122)
def fm (c:UInt8):Bool:=dX c||(decide (48≤c.toNat)&&decide (c.toNat≤57))||c==95
def syms:List (List UInt8):=[[38,38],[124,124],[45,62],[61,61],[33,61],[60,61],[62,61],[58,58],[40],[41],[33],[60],[62],[43],[45]]
/-- the symbol that begins a text -/
def pS (l:List (List UInt8)) (s:List UInt8):List UInt8:=match l with
 |[]=>[]
 |x::l=>if jB s x then x else pS l s
def ls (s:List UInt8):List UInt8:=pS syms s
/-- the word that begins a text -/
def cN (s:List UInt8):List UInt8:=s.takeWhile fm
abbrev Tok:=Nat × List UInt8 × Nat
/-- kind and text of the token that begins a text -/
def iU (s:List UInt8):Option (Nat × List UInt8) :=
 match cN s with
 |[]=>match ls s with
  |[]=>none
  |x=>some (3,x)
 |c::w=>if dX c then some (2,c::w) else if (lit (c::w)).isSome then some (1,c::w) else none
/-- the tokens up to the end, or up to the first error and its index -/
def gm:Nat→List UInt8→Nat→List Tok × Option Nat
 |0,_,_=>([],none)
 |_+1,[],_=>([],none)
 |f+1,c::r,k=>if c=32 then gm f r (k+1) else match iU (c::r) with
  |none=>([],some k)
  |some (kd,x)=>((kd,x,k)::(gm f ((c::r).drop x.length) (k+x.length)).1,(gm f ((c::r).drop x.length) (k+x.length)).2)
theorem wb {s:List UInt8}:∀ {l:List (List UInt8)},(∀ x∈l,x≠[])→pS l s≠[]→pS l s∈l∧jB s (pS l s)=true
 |[],_,h=>absurd rfl h
 |x::l,hl,h=>by
  unfold pS at h ⊢
  by_cases hx:jB s x=true
  ·rw [if_pos hx];exact ⟨List.mem_cons_self,hx⟩
  ·rw [if_neg hx] at h ⊢
   obtain ⟨h1,h2⟩:=wb (fun y hy=>hl y (List.mem_cons_of_mem _ hy)) h
   exact ⟨List.mem_cons_of_mem _ h1,h2⟩
theorem BT:∀ x∈syms,x≠[]:=by decide
theorem y3 {s p:List UInt8} (h:jB s p=true):p.length≤s.length∧s.take p.length=p:=by
 have h2:=eq_of_beq h
 have:=congrArg List.length h2
 rw [List.length_take] at this
 exact ⟨by omega,h2⟩
theorem jJ {p:UInt8→Bool}:∀ (s:List UInt8),s.take (s.takeWhile p).length=s.takeWhile p
 |[]=>rfl
 |c::s=>by
  by_cases h:p c=true
  ·rw [List.takeWhile_cons_of_pos h,yaz,yaq,jJ s]
  ·rw [List.takeWhile_cons_of_neg h];rfl
/-- a token's text is what it is cut out of, and is not empty -/
theorem kh {s:List UInt8} {kd:Nat} {x:List UInt8} (h:iU s=some (kd,x)):x≠[]∧x.length≤s.length∧s.take x.length=x:=by
 unfold iU at h
 split at h
 ·split at h
  ·cases h
  ·rename_i y hy
   injection h with h
   injection h with h1 h2
   subst h2
   obtain ⟨_,h4⟩:=wb BT (s:=s) hy
   exact ⟨hy,y3 h4⟩
 ·rename_i c w hw
  have hx:x=c::w:=by
   split at h
   ·injection h with h;injection h with h1 h2;exact h2.symm
   ·split at h
    ·injection h with h;injection h with h1 h2;exact h2.symm
    ·cases h
  subst hx
  refine ⟨by simp,?_,?_⟩
  ·rw [← hw];exact (List.takeWhile_sublist _).length_le
  ·rw [← hw];exact jJ s
theorem jc:∀ (f g:Nat) (s:List UInt8) (k:Nat),s.length≤f→s.length≤g→gm f s k=gm g s k
 |0,0,_,_,_,_=>rfl
 |0,g+1,s,k,h,_=>by
  have:s=[]:=List.eq_nil_of_length_eq_zero (by omega)
  subst this;rfl
 |f+1,0,s,k,_,h=>by
  have:s=[]:=List.eq_nil_of_length_eq_zero (by omega)
  subst this;rfl
 |f+1,g+1,[],k,_,_=>rfl
 |f+1,g+1,c::r,k,h1,h2=>by
  simp only [yaz] at h1 h2
  unfold gm
  split
  ·exact jc f g r (k+1) (by omega) (by omega)
  ·split
   ·rfl
   ·rename_i kd x hx
    obtain ⟨h3,h4,_⟩:=kh hx
    have h5:0<x.length:=List.length_pos_iff.2 h3
    have e:=jc f g ((c::r).drop x.length) (k+x.length) (by rw [List.length_drop,yaz];omega) (by rw [List.length_drop,yaz];omega)
    rw [e]
/-- the tokens of what lies behind place k -/
def rest (s:List UInt8) (k:Nat):List Tok × Option Nat:=gm s.length (s.drop k) k
theorem Aa {s:List UInt8} {k:Nat} (h:s.length≤k):rest s k=([],none):=by
 unfold rest
 rw [ybf h]
 cases s.length<;>rfl
theorem vz {s:List UInt8} {k:Nat} (h:k<s.length) (h2:s[k]=32):rest s k=rest s (k+1):=by
 unfold rest
 obtain ⟨f,hf⟩:∃ f,s.length=f+1:=⟨s.length - 1,by omega⟩
 rw [List.drop_eq_getElem_cons h,h2]
 rw [hf]
 show gm (f+1) (32::s.drop (k+1)) k=_
 rw [gm,if_pos rfl]
 exact jc _ _ _ _ (by rw [List.length_drop];omega) (by rw [List.length_drop];omega)
theorem tt {s:List UInt8} {k:Nat} (h:k<s.length) (h2:s[k]≠32) (h3:iU (s.drop k)=none):rest s k=([],some k):=by
 unfold rest
 obtain ⟨f,hf⟩:∃ f,s.length=f+1:=⟨s.length - 1,by omega⟩
 rw [List.drop_eq_getElem_cons h] at h3 ⊢
 rw [hf]
 rw [gm,if_neg h2,h3]
theorem zD {s:List UInt8} {k kd:Nat} {x:List UInt8} (h:k<s.length) (h2:s[k]≠32) (h3:iU (s.drop k)=some (kd,x)) :
 rest s k=((kd,x,k)::(rest s (k+x.length)).1,(rest s (k+x.length)).2):=by
 obtain ⟨g1,g2,_⟩:=kh h3
 have g3:0<x.length:=List.length_pos_iff.2 g1
 rw [List.length_drop] at g2
 unfold rest
 obtain ⟨f,hf⟩:∃ f,s.length=f+1:=⟨s.length - 1,by omega⟩
 have e:gm f ((s.drop k).drop x.length) (k+x.length)=gm s.length (s.drop (k+x.length)) (k+x.length):=by
  rw [List.drop_drop]
  exact jc _ _ _ _ (by rw [List.length_drop];omega) (by rw [List.length_drop];omega)
 rw [← e,hf]
 rw [List.drop_eq_getElem_cons h] at h3 ⊢
 rw [gm,if_neg h2,h3]
/-- all tokens, index and error of a text -/
def bX (s:List UInt8):List Tok × Nat × Nat:=if 400<s.length then ([],0,3) else match rest s 0 with
 |(l,none)=>(l,0,0)
 |(_,some k)=>([],k,10)
end Go.AL
open Go Go.AL Go.Proofs
namespace Go.AL
set_option linter.all false
set_option maxRecDepth 10000
end Go.AL
open Go Go.AL Go.Proofs
namespace Go.AL
set_option linter.all false
set_option maxRecDepth 10000
theorem Cb:ti Try.prog 157=some ⟨.struct [(0,3,false),(1,9,false),(2,3,false)],3,32,.agg [.int .i64 0,.str [],.int .i64 0]⟩:=by kernel_rfl
theorem zN:ti Try.prog 114=some ⟨.slice 157,1,24,.slice .nil 1 []⟩:=by kernel_rfl
theorem xq:ti Try.prog 74=some ⟨.int .i64,1,8,.int .i64 0⟩:=by kernel_rfl
attribute [go_sem] Cb zN xq
theorem wE {t:Bool} {A B:Prop} (e:t=false) (h:B):jb t A B:=cf (fun h=>by simp [e] at h) (fun _=>h)
theorem q8 {P:Program} {Ω:Tbl} {K:Conts} {t:Bool} {a b:Code} {fr:Fr} {H:AHeap} (e:t=false) (h:aw P Ω b K fr H):kB P Ω (.bool t) a b K fr H:=ax (fun h=>by simp [e] at h) (fun _=>h)
/-- a row of texts -/
def sAV (l:List (List UInt8)):List AV:=l.map .str
theorem jf {l:List (List UInt8)}:(sAV l).length=l.length:=by simp [sAV]
theorem vR {l:List (List UInt8)} {i:Nat} (h:i<l.length):(sAV l).getD i .junk=.str (l.getD i []):=by simp [sAV,List.getD_eq_getElem?_getD,h]
theorem fY {n sz:Nat} {l:List AV} (h:∀ x∈l,AV.lt n x):AV.lt n (.slice .any sz l):=by
 rw [AV.lt]
 exact ⟨fun id e=>(by cases e),fun j hj=>h _ (List.getElem_mem hj)⟩
theorem fK {n:Nat} {l:List (List UInt8)}:AV.lt n (.slice .any 1 (sAV l)):=fY fun x hx=>by
 obtain ⟨s,_,rfl⟩:=List.mem_map.1 hx
 simp only [znd]
theorem CQ:[AV.str [38,38],.str [124,124],.str [45,62],.str [61,61],.str [33,61],.str [60,61],.str [62,61],.str [58,58],.str [40],.str [41],.str [33],.str [60],.str [62],.str [43],.str [45]]=sAV syms:=rfl
theorem jO:syms.length=15:=rfl
/-- tokens in memory -/
def sm (t:Tok):AV:=.agg [.int .i64 (t.1:Int),.str t.2.1,.int .i64 (t.2.2:Int)]
def cV (l:List Tok):List AV:=l.map sm
theorem bc {l:List Tok}:(cV l).length=l.length:=by simp [cV]
theorem CP {l:List Tok} {x:List UInt8} {k:Nat}:cV l++[.agg [.int .i64 1,.str x,.int .i64 (k:Int)]]=cV (l++[(1,x,k)]):=by simp [cV,sm]
theorem DM {l:List Tok} {x:List UInt8} {k:Nat}:cV l++[.agg [.int .i64 2,.str x,.int .i64 (k:Int)]]=cV (l++[(2,x,k)]):=by simp [cV,sm]
theorem DA {l:List Tok} {x:List UInt8} {k:Nat}:cV l++[.agg [.int .i64 3,.str x,.int .i64 (k:Int)]]=cV (l++[(3,x,k)]):=by simp [cV,sm]
theorem vL {k1 k2:IntKind} {a c:Int} {b:List UInt8}:(∀ z,z∈[AV.agg [.int k1 a,.str b,.int k2 c]]→aW z.cells=true)=True:=eq_true fun z hz=>by
 rw [List.mem_singleton.1 hz]
 simp [zim,zgm,zgn,zgo,zgq]
theorem aX {H Hc:AHeap} {i:Nat} {o:AObj} (h:H.Le Hc) (hi:H.nx≤i):H.Le (Hc.set i o):=⟨h.nx,fun j x hj=>by
 have:=AHeap.get_lt hj
 rw [AHeap.get_set_ne _ _ (by omega)]
 exact h.get j x hj⟩
theorem iH:cV []=[]:=rfl
theorem Bg {n:Nat} {l:List Tok}:AV.lt n (.slice .any 3 (cV l)):=fY fun x hx=>by
 obtain ⟨s,_,rfl⟩:=List.mem_map.1 hx
 simp only [sm,znn,znq,znr,znb,znd,and_true]
theorem AF {n:Nat} {l:List Tok}:ltL n (cV l):=ltL_iff.2 fun j hj=>by
 simp only [cV,List.getElem_map,sm,znn,znq,znr,znb,znd,and_true]
theorem m9 {n id:Nat} {l:List Tok} (h:id<n):AV.lt n (.slice (.own id) 3 (cV l)):=by
 rw [aG]
 exact ⟨fun i e=>by cases e;exact h,AF⟩
def rh (s:List UInt8):AV:=.tup [.slice .any 3 (cV (bX s).1),.int .i64 ((bX s).2.1:Int),.int .i64 ((bX s).2.2:Int)]
def ip:List AV→AHeap→(AV→Prop)→Prop
 |[.str s,.str p],_,K=>K (.bool (jB s p))
 |_,_,_=>False
theorem lJ:EntOk Try.prog 50 (Ent.pure ip):=by
 refine EntOk.pure fun args H K h=>?_
 unfold ip at h
 split at h
 rotate_left
 ·exact h.elim
 rename_i s p
 refine ⟨_,h,?_⟩
 clear h
 refine ACalls.fW aD (TblOk.cons kI TblOk.nil) Try.func50 [.tmp 4] (Nat.le_refl _) (T:=az []) (h:=fun hcl hlt=>?_)
 clear hlt
 simp only [go_sem,gy]
 simp (disch:=first|assumption|omega|(simp;done)|(simp;omega)|(simp only [bt,and_true];first|done|omega|(simp;done))) [↓zmk,beq,ybc,ybd,ybe,ag,wk,wk2,wk1,wkM,wkL,am,ybf,hcl]
def kW:List AV→AHeap→(AV→Prop)→Prop
 |[],_,K=>K (.slice .any 1 (sAV syms))
 |_,_,_=>False
theorem tv:EntOk Try.prog 70 (Ent.pure kW):=by
 refine EntOk.pure fun args H K h=>?_
 unfold kW at h
 split at h
 rotate_left
 ·exact h.elim
 refine ⟨_,h,?_⟩
 clear h
 refine ACalls.fW aD TblOk.nil Try.func70 [.tmp 0] (Nat.le_refl _) (T:=az []) (h:=fun hcl hlt=>?_)
 clear hlt
 simp only [go_sem,CQ]
 simp (disch:=first|assumption|omega|(simp;done)|(simp;omega)|(simp only [bt,and_true];first|done|omega|(simp;done))) [↓zmk,beq,ybc,ybd,ybe,ag,wk,wk2,wk1,wkM,wkL,am,ybf,hcl,fK]
theorem wS {x:List UInt8} {l:List (List UInt8)} {s:List UInt8}:pS (x::l) s=if jB s x then x else pS l s:=by rw [pS]
def my:List AV→AHeap→(AV→Prop)→Prop
 |[.str s],_,K=>K (.str (ls s))
 |_,_,_=>False
theorem vj:EntOk Try.prog 51 (Ent.pure my):=by
 refine EntOk.pure fun args H K h=>?_
 unfold my at h
 split at h
 rotate_left
 ·exact h.elim
 rename_i s
 refine ⟨_,h,?_⟩
 clear h
 refine ACalls.fW aD (TblOk.cons tv (TblOk.cons lJ TblOk.nil)) Try.func51 [.tmp 2] (Nat.le_refl _) (T:=az []) (h:=fun hcl hlt=>?_)
 clear hlt
 simp only [go_sem,kW,jf]
 refine aB (A:=Nat) (fun k=>[(0,.str s),(5,.slice .any 1 (sAV syms)),(6,.int .i64 15),(7,.int .i64 (k:Int))]) (fun k=>H) (fun k=>k≤15∧ls s=pS (syms.drop k) s) (fun k=>15 - k) 0 ⟨by omega,rfl⟩ ?_ fun k hk=>?_
 ·(simp only [bkq,enterW,aI,ltF,ne_eq,Nat.reduceEqDiff,reduceCtorEq,fK,jO];try simp (disch:=first|assumption|omega|(simp;done)|(simp;omega)|(simp only [bt,and_true];first|done|omega|(simp;done))) [↓zmk,beq,ybc,ybd,ybe,ag,wk,wk2,wk1,wkM,wkL,am,ybf,byq,biq,au,hcl,fK,jO];try (repeat' (first|assumption|omega|exact True.intro|refine And.intro ?_ ?_|refine af ?_|refine aa ?_|refine ae ?_ ?_|refine ah ?_ ?_|refine ak ?_|exact AHeap.Le.refl _|refine AHeap.Le.push ?_ _|refine AHeap.Le.del ?_ ?_|(simp only [bt,and_true,true_and,fK,jO];first|done|omega|(simp;done)))))
 obtain ⟨hk,hs⟩:=hk
 simp only [go_sem]
 refine ax (fun h1=>?_) (fun h1=>?_)
 ·have hk2:k<15:=by simp at h1;omega
  have hk1:k<syms.length:=by rw [jO];exact hk2
  have hg:(sAV syms).getD k .junk=.str (syms.getD k []):=vR hk1
  have e5:IntKind.i64.wrap ((k:Int)+1)=((k+1:Nat):Int):=by rw [wrap_i64]<;>omega
  have hgk:syms.getD k []=syms[k]:=by simp [List.getD_eq_getElem?_getD,hk1]
  rw [List.drop_eq_getElem_cons hk1,wS] at hs
  rw [hgk] at hg
  generalize syms[k]=x at *
  simp only [go_sem,Int.toNat_natCast,jf,jO,hg,ip,e5]
  refine ⟨by omega,ax (fun h2=>?_) (fun h2=>?_)⟩
  ·rw [if_pos h2] at hs
   simp only [go_sem,hs]
   simp (disch:=first|assumption|omega|(simp;done)|(simp;omega)|(simp only [bt,and_true];first|done|omega|(simp;done))) [↓zmk,beq,ybc,ybd,ybe,ag,wk,wk2,wk1,wkM,wkL,am,ybf,hcl]
  ·rw [if_neg (by simp [h2])] at hs
   simp only [go_sem,e5]
   refine ⟨k+1,⟨by omega,hs⟩,by omega,?_⟩
   (simp only [bkq,enterW,aI,ltF,ne_eq,Nat.reduceEqDiff,reduceCtorEq,fK];try simp (disch:=first|assumption|omega|(simp;done)|(simp;omega)|(simp only [bt,and_true];first|done|omega|(simp;done))) [↓zmk,beq,ybc,ybd,ybe,ag,wk,wk2,wk1,wkM,wkL,am,ybf,byq,biq,au,hcl,fK];try (repeat' (first|assumption|omega|exact True.intro|refine And.intro ?_ ?_|refine af ?_|refine aa ?_|refine ae ?_ ?_|refine ah ?_ ?_|refine ak ?_|exact AHeap.Le.refl _|refine AHeap.Le.push ?_ _|refine AHeap.Le.del ?_ ?_|(simp only [bt,and_true,true_and,fK];first|done|omega|(simp;done)))))
 ·have hk1:k=15:=by simp at h1;omega
  subst hk1
  have h0:ls s=[]:=by rw [hs];rfl
  simp only [go_sem,h0]
  simp (disch:=first|assumption|omega|(simp;done)|(simp;omega)|(simp only [bt,and_true];first|done|omega|(simp;done))) [↓zmk,beq,ybc,ybd,ybe,ag,wk,wk2,wk1,wkM,wkL,am,ybf,hcl]
def ks:List AV→AHeap→(AV→Prop)→Prop
 |[x],_,K=>∃ c,x=bC c∧K (.bool (dX c))
 |_,_,_=>False
theorem oU:EntOk Try.prog 53 (Ent.pure ks):=by
 refine EntOk.pure fun args H K h=>?_
 unfold ks at h
 split at h
 rotate_left
 ·exact h.elim
 obtain ⟨c,rfl,hK⟩:=h
 refine ⟨_,hK,?_⟩
 clear hK
 refine ACalls.fW aD TblOk.nil Try.func53 [.tmp 2] (Nat.le_refl _) (T:=az []) (h:=fun hcl hlt=>?_)
 clear hlt
 simp only [go_sem,bC]
 refine cf (fun h1=>?_) (fun h1=>?_)
 ·have e:dX c=decide ((c.toNat:Int)≤122):=by unfold dX;rw [Bool.eq_iff_iff];simp at h1 ⊢;omega
  simp only [go_sem,e]
  simp (disch:=first|assumption|omega|(simp;done)|(simp;omega)|(simp only [bt,and_true];first|done|omega|(simp;done))) [↓zmk,beq,ybc,ybd,ybe,ag,wk,wk2,wk1,wkM,wkL,am,ybf,hcl]
 ·have e:dX c=false:=by unfold dX;rw [Bool.eq_iff_iff];simp at h1 ⊢;omega
  simp only [go_sem,e]
  simp (disch:=first|assumption|omega|(simp;done)|(simp;omega)|(simp only [bt,and_true];first|done|omega|(simp;done))) [↓zmk,beq,ybc,ybd,ybe,ag,wk,wk2,wk1,wkM,wkL,am,ybf,hcl]
def rp:List AV→AHeap→(AV→Prop)→Prop
 |[x],_,K=>∃ c,x=bC c∧K (.bool (fm c))
 |_,_,_=>False
theorem zk:EntOk Try.prog 71 (Ent.pure rp):=by
 refine EntOk.pure fun args H K h=>?_
 unfold rp at h
 split at h
 rotate_left
 ·exact h.elim
 obtain ⟨c,rfl,hK⟩:=h
 refine ⟨_,hK,?_⟩
 clear hK
 refine ACalls.fW aD (TblOk.cons oU TblOk.nil) Try.func71 [.tmp 2] (Nat.le_refl _) (T:=az []) (h:=fun hcl hlt=>?_)
 clear hlt
 simp only [go_sem,ks]
 refine ⟨c,rfl,?_⟩
 simp only [go_sem,bC]
 have e95:(((c.toNat:Nat):Int)==95)=(c==95):=by rw [Bool.eq_iff_iff];simp [← UInt8.toNat_inj];omega
 rw [e95]
 refine cf (fun h1=>?_) (fun h1=>?_)
 ·have e:fm c=true:=by unfold fm;rw [h1];rfl
  simp only [go_sem,e]
  simp (disch:=first|assumption|omega|(simp;done)|(simp;omega)|(simp only [bt,and_true];first|done|omega|(simp;done))) [↓zmk,beq,ybc,ybd,ybe,ag,wk,wk2,wk1,wkM,wkL,am,ybf,hcl]
 ·refine cf (fun h2=>?_) (fun h2=>?_)
  ·have h2':48≤c.toNat:=by simp at h2;omega
   refine cf (fun h3=>?_) (fun h3=>?_)
   ·have h3':c.toNat≤57:=by simp at h3;omega
    have e:fm c=true:=by unfold fm;rw [decide_eq_true h2',decide_eq_true h3'];simp
    simp only [go_sem,e]
    simp (disch:=first|assumption|omega|(simp;done)|(simp;omega)|(simp only [bt,and_true];first|done|omega|(simp;done))) [↓zmk,beq,ybc,ybd,ybe,ag,wk,wk2,wk1,wkM,wkL,am,ybf,hcl]
   ·have h3':¬ c.toNat≤57:=by simp at h3;omega
    have e:fm c=(c==95):=by unfold fm;rw [decide_eq_false h3',h1];simp
    simp only [go_sem,e]
    simp (disch:=first|assumption|omega|(simp;done)|(simp;omega)|(simp only [bt,and_true];first|done|omega|(simp;done))) [↓zmk,beq,ybc,ybd,ybe,ag,wk,wk2,wk1,wkM,wkL,am,ybf,hcl]
  ·have h2':¬ 48≤c.toNat:=by simp at h2;omega
   have e:fm c=(c==95):=by unfold fm;rw [decide_eq_false h2',h1];simp
   simp only [go_sem,e]
   simp (disch:=first|assumption|omega|(simp;done)|(simp;omega)|(simp only [bt,and_true];first|done|omega|(simp;done))) [↓zmk,beq,ybc,ybd,ybe,ag,wk,wk2,wk1,wkM,wkL,am,ybf,hcl]
theorem nh {s:List UInt8} {k:Nat} (h:k<s.length):cN (s.drop k)=if fm (s.getD k 0) then s.getD k 0::cN (s.drop (k+1)) else []:=by
 have e:s.getD k 0=s[k]:=by simp [List.getD_eq_getElem?_getD,h]
 rw [e,List.drop_eq_getElem_cons h]
 unfold cN
 by_cases hp:fm s[k]=true
 ·rw [if_pos hp,List.takeWhile_cons_of_pos hp]
 ·rw [if_neg hp,List.takeWhile_cons_of_neg hp]
theorem yG {s:List UInt8} {k:Nat} (h:k<s.length) (hp:fm (s.getD k 0)=true) (hw:cN s=s.take k++cN (s.drop k)):cN s=s.take (k+1)++cN (s.drop (k+1)):=by
 have e:s.getD k 0=s[k]:=by simp [List.getD_eq_getElem?_getD,h]
 rw [nh h,if_pos hp,e] at hw
 rw [hw,List.take_succ_eq_append_getElem h,List.append_assoc];rfl
theorem sQ {s:List UInt8} {k:Nat} (h:k<s.length) (hp:fm (s.getD k 0)=false) (hw:cN s=s.take k++cN (s.drop k)):cN s=s.take k:=by
 rw [nh h,if_neg (by rw [hp];decide),yaj] at hw
 exact hw
theorem uK {s:List UInt8} {k:Nat} (h:¬ k<s.length) (hw:cN s=s.take k++cN (s.drop k)):cN s=s.take k:=by
 rw [ybf (by omega)] at hw
 simpa [cN] using hw
def rF:List AV→AHeap→(AV→Prop)→Prop
 |[.str s],_,K=>s.length≤140737488355328∧K (.str (cN s))
 |_,_,_=>False
theorem Ac:EntOk Try.prog 52 (Ent.pure rF):=by
 refine EntOk.pure fun args H K h=>?_
 unfold rF at h
 split at h
 rotate_left
 ·exact h.elim
 rename_i s
 obtain ⟨hsl,hK⟩:=h
 refine ⟨_,hK,?_⟩
 clear hK
 refine ACalls.fW aD (TblOk.cons zk TblOk.nil) Try.func52 [.tmp 2] (Nat.le_refl _) (T:=az []) (h:=fun hcl hlt=>?_)
 clear hlt
 simp only [go_sem]
 refine aB (A:=Nat) (fun k=>[(0,.str s),(3,.int .i64 (k:Int))]) (fun k=>H) (fun k=>k≤s.length∧cN s=s.take k++cN (s.drop k)) (fun k=>s.length - k) 0 ⟨by omega,by simp⟩ ?_ fun k hk=>?_
 ·(simp only [bkq,enterW,aI,ltF,ne_eq,Nat.reduceEqDiff,reduceCtorEq];try simp (disch:=first|assumption|omega|(simp;done)|(simp;omega)|(simp only [bt,and_true];first|done|omega|(simp;done))) [↓zmk,beq,ybc,ybd,ybe,ag,wk,wk2,wk1,wkM,wkL,am,ybf,byq,biq,au,hcl];try (repeat' (first|assumption|omega|exact True.intro|refine And.intro ?_ ?_|refine af ?_|refine aa ?_|refine ae ?_ ?_|refine ah ?_ ?_|refine ak ?_|exact AHeap.Le.refl _|refine AHeap.Le.push ?_ _|refine AHeap.Le.del ?_ ?_|(simp only [bt,and_true,true_and];first|done|omega|(simp;done)))))
 obtain ⟨hk,hs⟩:=hk
 simp only [go_sem]
 refine cf (fun h1=>?_) (fun h1=>?_)
 ·have hk1:k<s.length:=by simp at h1;omega
  have e5:IntKind.i64.wrap ((k:Int)+1)=((k+1:Nat):Int):=by rw [wrap_i64]<;>omega
  simp only [go_sem,rp,Int.toNat_natCast]
  refine ⟨by omega,s.getD k 0,rfl,?_⟩
  refine ax (fun h2=>?_) (fun h2=>?_)
  ·simp only [go_sem,e5]
   refine ⟨k+1,⟨by omega,yG hk1 h2 hs⟩,by omega,?_⟩
   (simp only [bkq,enterW,aI,ltF,ne_eq,Nat.reduceEqDiff,reduceCtorEq];try simp (disch:=first|assumption|omega|(simp;done)|(simp;omega)|(simp only [bt,and_true];first|done|omega|(simp;done))) [↓zmk,beq,ybc,ybd,ybe,ag,wk,wk2,wk1,wkM,wkL,am,ybf,byq,biq,au,hcl];try (repeat' (first|assumption|omega|exact True.intro|refine And.intro ?_ ?_|refine af ?_|refine aa ?_|refine ae ?_ ?_|refine ah ?_ ?_|refine ak ?_|exact AHeap.Le.refl _|refine AHeap.Le.push ?_ _|refine AHeap.Le.del ?_ ?_|(simp only [bt,and_true,true_and];first|done|omega|(simp;done)))))
  ·have hw:=sQ hk1 h2 hs
   simp only [go_sem,Int.toNat_natCast,hw]
   refine ⟨by omega,?_⟩
   simp (disch:=first|assumption|omega|(simp;done)|(simp;omega)|(simp only [bt,and_true];first|done|omega|(simp;done))) [↓zmk,beq,ybc,ybd,ybe,ag,wk,wk2,wk1,wkM,wkL,am,ybf,hcl]
 ·have hk1:¬ k<s.length:=by simp at h1;omega
  have hw:=uK hk1 hs
  try simp only [go_sem,Int.toNat_natCast,hw,zau]
  refine ⟨by omega,?_⟩
  simp (disch:=first|assumption|omega|(simp;done)|(simp;omega)|(simp only [bt,and_true];first|done|omega|(simp;done))) [↓zmk,beq,ybc,ybd,ybe,ag,wk,wk2,wk1,wkM,wkL,am,ybf,hcl]
def nN:List AV→AHeap→(AV→Prop)→Prop
 |[.str s],_,K=>s.length≤140737488355328∧K (rh s)
 |_,_,_=>False
theorem nK {s:List UInt8} {k:Nat} {x:List UInt8} {kd:Nat} (h:k<s.length) (h3:iU (s.drop k)=some (kd,x)):x≠[]∧k+x.length≤s.length:=by
 obtain ⟨g1,g2,_⟩:=kh h3
 rw [List.length_drop] at g2
 exact ⟨g1,by omega⟩
theorem xD {s:List UInt8} {l:List Tok} (h:¬ 400<s.length) (e:rest s 0=(l,none)):bX s=(l,0,0):=by unfold bX;rw [if_neg h,e]
theorem qp {s:List UInt8} {l:List Tok} {k:Nat} (h:¬ 400<s.length) (e:rest s 0=(l,some k)):bX s=([],k,10):=by unfold bX;rw [if_neg h,e]
theorem xC {s:List UInt8} (h:cN s=[]) (h2:ls s=[]):iU s=none:=by unfold iU;rw [h,h2]
theorem AX {s y:List UInt8} (h:cN s=[]) (h2:ls s=y) (hy:y≠[]):iU s=some (3,y):=by
 unfold iU;rw [h,h2];cases y with
 |nil=>exact absurd rfl hy
 |cons a b=>rfl
theorem AU {s w:List UInt8} {c:UInt8} (h:cN s=c::w) (h2:dX c=true):iU s=some (2,c::w):=by unfold iU;rw [h];dsimp only;rw [if_pos h2]
theorem As {s w:List UInt8} {c:UInt8} {n:Nat} (h:cN s=c::w) (h2:dX c=false) (h3:lit (c::w)=some n):iU s=some (1,c::w):=by
 unfold iU;rw [h];dsimp only;rw [if_neg (by rw [h2];decide),h3];rfl
theorem zQ {s w:List UInt8} {c:UInt8} (h:cN s=c::w) (h2:dX c=false) (h3:lit (c::w)=none):iU s=none:=by
 unfold iU;rw [h];dsimp only;rw [if_neg (by rw [h2];decide),h3];rfl
theorem su {s:List UInt8} {pre:List Tok} {k kd id:Nat} {x:List UInt8} {H Hd:AHeap} {fr:Fr} (hk:k<s.length) (hc:s[k]≠32) (ht:iU (s.drop k)=some (kd,x)) (hpl:pre.length≤k)
 (hr:rest s 0=(pre++(rest s k).1,(rest s k).2)) (hle:H.Le Hd) (hcd:Hd.Closed) (hid:H.nx≤id) (hg:Hd.get id=some (.buf 3 (pre.length+1)))
 (f0:Fr.get fr 0=.str s) (f5:Fr.get fr 5=.slice (.own id) 3 (cV (pre++[(kd,x,k)]))) (f6:Fr.get fr 6=.int .i64 ((k+x.length:Nat):Int)) :
 ∃ a':Nat × List Tok × Nat × AHeap,((a'.1≤s.length∧a'.2.1.length≤a'.1∧rest s 0=(a'.2.1++(rest s a'.1).1,(rest s a'.1).2))∧H.Le a'.2.2.2∧a'.2.2.2.Closed∧H.nx≤a'.2.2.1∧a'.2.2.2.get a'.2.2.1=some (.buf 3 a'.2.1.length)) ∧
  s.length - a'.1<s.length - k∧enterW H.nx fr Hd [(0,.str s),(5,.slice (.own a'.2.2.1) 3 (cV a'.2.1)),(6,.int .i64 (a'.1:Int))] a'.2.2.2:=by
 obtain ⟨hy1,hy2⟩:=nK hk ht
 have hyl:0<x.length:=List.length_pos_iff.2 hy1
 have hid2:id<Hd.nx:=AHeap.get_lt hg
 refine ⟨(k+x.length,pre++[(kd,x,k)],id,Hd),⟨⟨hy2,?_,?_⟩,hle,hcd,hid,?_⟩,?_,hle.nx,AHeap.Le.refl _,hcd,?_,?_⟩
 ·simp;omega
 ·rw [hr,zD hk hc ht,List.append_assoc];rfl
 ·rw [hg];simp
 ·dsimp only;omega
 ·simp only [ltF,znd,znb,true_and,and_true]
  exact m9 hid2
 ·simp [aI,wk2,wk1,wkM,f0,f5,f6]
theorem qi {s:List UInt8} {k:Nat} (h:k<s.length):jB (s.drop k) [32]=(s[k]==32):=by
 unfold jB
 rw [List.drop_eq_getElem_cons h]
 generalize s.drop (k+1)=r
 rw [Bool.eq_iff_iff,beq_iff_eq,beq_iff_eq]
 show [s[k]]=[32]↔_
 simp
set_option maxHeartbeats 2000000 in
theorem z5:EntOk Try.prog 37 (Ent.pure nN):=by
 refine EntOk.pure fun args H K h=>?_
 unfold nN at h
 split at h
 rotate_left
 ·exact h.elim
 rename_i s
 obtain ⟨hsl,hK⟩:=h
 refine ⟨_,hK,?_⟩
 clear hK
 refine ACalls.fW aD (TblOk.cons lJ (TblOk.cons vj (TblOk.cons Ac (TblOk.cons oU (TblOk.cons nd TblOk.nil))))) Try.func37 [.tmp 2,.tmp 3,.tmp 4] (Nat.le_refl _) (T:=az []) (h:=fun hcl hlt=>?_)
 clear hlt
 simp only [go_sem,rh]
 refine ax (fun h1=>?_) (fun h1=>?_)
 ·have h1':400<s.length:=by simp at h1;omega
  have e:bX s=([],0,3):=by unfold bX;rw [if_pos h1']
  simp only [go_sem,e,iH]
  simp (disch:=first|assumption|omega|(simp;done)|(simp;omega)|(simp only [bt,and_true];first|done|omega|(simp;done))) [↓zmk,beq,ybc,ybd,ybe,ag,wk,wk2,wk1,wkM,wkL,am,ybf,hcl,fY]
 have h1':¬ 400<s.length:=by simp at h1;omega
 simp only [go_sem]
 refine aB (A:=Nat × List Tok × Nat × AHeap) (fun a=>[(0,.str s),(5,.slice (.own a.2.2.1) 3 (cV a.2.1)),(6,.int .i64 (a.1:Int))]) (fun a=>a.2.2.2)
  (fun a=>(a.1≤s.length∧a.2.1.length≤a.1∧rest s 0=(a.2.1++(rest s a.1).1,(rest s a.1).2))∧H.Le a.2.2.2∧a.2.2.2.Closed∧H.nx≤a.2.2.1∧a.2.2.2.get a.2.2.1=some (.buf 3 a.2.1.length))
  (fun a=>s.length - a.1) (0,[],H.nx+1,(H.push (.buf 3 0)).push (.buf 3 0)) ⟨⟨by omega,by simp,by simp⟩,?_,?_,by simp,?_⟩ ?_ fun a ha=>?_
 ·simp (disch:=first|assumption|omega|(simp;done)|(simp;omega)|(simp only [bt,and_true];first|done|omega|(simp;done))) [↓zmk,beq,ybc,ybd,ybe,ag,wk,wk2,wk1,wkM,wkL,am,ybf,hcl]
 ·(repeat' (first|assumption|omega|exact True.intro|refine And.intro ?_ ?_|refine af ?_|refine aa ?_|refine ae ?_ ?_|refine ah ?_ ?_|refine ak ?_|exact AHeap.Le.refl _|refine AHeap.Le.push ?_ _|refine AHeap.Le.del ?_ ?_|(simp only [bt,and_true,true_and];first|done|omega|(simp;done))))
 ·exact AHeap.get_push_new _ _
 ·(simp only [bkq,enterW,aI,ltF,ne_eq,Nat.reduceEqDiff,reduceCtorEq,iH];try simp (disch:=first|assumption|omega|(simp;done)|(simp;omega)|(simp only [bt,and_true];first|done|omega|(simp;done))) [↓zmk,beq,ybc,ybd,ybe,ag,wk,wk2,wk1,wkM,wkL,am,ybf,byq,biq,au,hcl,iH];try (repeat' (first|assumption|omega|exact True.intro|refine And.intro ?_ ?_|refine af ?_|refine aa ?_|refine ae ?_ ?_|refine ah ?_ ?_|refine ak ?_|exact AHeap.Le.refl _|refine AHeap.Le.push ?_ _|refine AHeap.Le.del ?_ ?_|(simp only [bt,and_true,true_and,iH];first|done|omega|(simp;done)))))
 obtain ⟨k,pre,id,Hc⟩:=a
 obtain ⟨⟨hk,hpl,hr⟩,hle,hcc,hid,hst⟩:=ha
 dsimp only at hk hpl hr hle hcc hid hst ⊢
 have hnx:H.nx≤Hc.nx:=hle.nx
 have hid2:id<Hc.nx:=AHeap.get_lt hst
 simp only [go_sem]
 refine ax (fun h2=>?_) (fun h2=>?_)
 ·have hk1:k<s.length:=by simp at h2;omega
  have e5:IntKind.i64.wrap ((k:Int)+1)=((k+1:Nat):Int):=by rw [wrap_i64]<;>omega
  simp only [go_sem,ip,Int.toNat_natCast,List.take_length]
  refine ⟨by omega,ax (fun h3=>?_) (fun h3=>?_)⟩
  ·have hc:s[k]=32:=by rw [qi hk1] at h3;simpa using h3
   rw [vz hk1 hc] at hr
   simp only [go_sem,e5]
   refine ⟨(k+1,pre,id,Hc),⟨⟨by dsimp only;omega,by dsimp only;omega,hr⟩,hle,hcc,hid,hst⟩,by dsimp only;omega,?_⟩
   (simp only [bkq,enterW,aI,ltF,ne_eq,Nat.reduceEqDiff,reduceCtorEq,hcc,hnx,hid2];try simp (disch:=first|assumption|omega|(simp;done)|(simp;omega)|(simp only [bt,and_true];first|done|omega|(simp;done))) [↓zmk,beq,ybc,ybd,ybe,ag,wk,wk2,wk1,wkM,wkL,am,ybf,byq,biq,au,hcl,hcc,hnx,hid2];try (repeat' (first|assumption|omega|exact True.intro|refine And.intro ?_ ?_|refine af ?_|refine aa ?_|refine ae ?_ ?_|refine ah ?_ ?_|refine ak ?_|exact AHeap.Le.refl _|refine AHeap.Le.push ?_ _|refine AHeap.Le.del ?_ ?_|(simp only [bt,and_true,true_and,hcc,hnx,hid2];first|done|omega|(simp;done)))))
   exact m9 hid2
  have n1:(id=Hc.nx)=False:=eq_false (by omega)
  have n2:(id=Hc.nx+1)=False:=eq_false (by omega)
  have n3:(id=Hc.nx+1+1)=False:=eq_false (by omega)
  have hc:s[k]≠32:=by rw [qi hk1] at h3;simpa using h3
  have hsd:(s.drop k).length≤400:=by rw [List.length_drop];omega
  simp only [go_sem,my,rF]
  refine ⟨by omega,?_⟩
  cases hw:cN (s.drop k) with
  |nil =>
   have en:(([]:List UInt8) != [])=false:=rfl
   rcases Classical.em (ls (s.drop k)=[]) with hy|hy
   ·have htk:=xC hw hy
    rw [tt hk1 hc htk,yaj] at hr
    have hsc:=qp h1' hr
    have eb:(([]:List UInt8)==[])=true:=rfl
    simp only [go_sem,hsc,hy,en,eb,zau,zat,iH]
    simp (disch:=first|assumption|omega|(simp;done)|(simp;omega)|(simp only [bt,and_true];first|done|omega|(simp;done))) [↓zmk,beq,ybc,ybd,ybe,ag,wk,wk2,wk1,wkM,wkL,am,ybf,hcc,hle,hcl]
    exact (hle.push _).push _
   ·have htk:=AX hw rfl hy
    have eb:(ls (s.drop k)==[])=false:=by simpa using hy
    have eb0:(([]:List UInt8)==[])=true:=rfl
    obtain ⟨hy1,hy2⟩:=nK hk1 htk
    generalize ls (s.drop k)=y at *
    have e6:IntKind.i64.wrap ((k:Int)+(y.length:Int))=((k+y.length:Nat):Int):=by rw [wrap_i64]<;>omega
    simp only [go_sem,en,eb,eb0,zau,zat,n1,n2,hst,bc,DA,e6,vL]
    refine ⟨by omega,su hk1 hc htk hpl hr (((aX hle hid).push _).push _) ?_ hid ?_ rfl rfl rfl⟩
    ·exact af (ae (aa hcc) (by simp [znq,znr,znb,znd]))
    ·rw [AHeap.get_push_lt _ _ (by simp [AHeap.push,AHeap.set];omega),AHeap.get_push_lt _ _ (by simp [AHeap.set];omega),AHeap.get_set_same _ _ hid2]
  |cons c w =>
   have en:((c::w) != [])=true:=rfl
   have eb:((c::w)==[])=false:=rfl
   simp only [go_sem,en,eb,zat,ks]
   refine ⟨by omega,c,rfl,?_⟩
   cases hlc:dX c with
   |true =>
    have htk:=AU hw hlc
    obtain ⟨_,hy2⟩:=nK hk1 htk
    have e6:IntKind.i64.wrap ((k:Int)+((w.length+1:Nat):Int))=((k+(c::w).length:Nat):Int):=by
     rw [yaz] at hy2 ⊢
     rw [wrap_i64]<;>omega
    simp only [go_sem,en,eb,zau,zat,n1,n2,hst,bc,DM,e6,vL]
    refine ⟨by omega,su hk1 hc htk hpl hr (((aX hle hid).push _).push _) ?_ hid ?_ rfl rfl rfl⟩
    ·exact af (ae (aa hcc) (by simp [znq,znr,znb,znd]))
    ·rw [AHeap.get_push_lt _ _ (by simp [AHeap.push,AHeap.set];omega),AHeap.get_push_lt _ _ (by simp [AHeap.set];omega),AHeap.get_set_same _ _ hid2]
   |false =>
    have hcw:(c::w).length≤400:=by rw [← hw];exact Nat.le_trans (List.takeWhile_sublist _).length_le hsd
    simp only [go_sem,en,eb,zau,zat,i5]
    cases hli:lit (c::w) with
    |none =>
     have htk:=zQ hw hlc hli
     rw [tt hk1 hc htk,yaj] at hr
     have hsc:=qp h1' hr
     simp only [go_sem,hsc,nB,nAV,zau,zat,iH]
     refine ⟨by simp only [yaz] at hcw;omega,?_⟩
     simp (disch:=first|assumption|omega|(simp;done)|(simp;omega)|(simp only [bt,and_true];first|done|omega|(simp;done))) [↓zmk,beq,ybc,ybd,ybe,ag,wk,wk2,wk1,wkM,wkL,am,ybf,hcc,hle,hcl]
     exact ((hle.push _).push _).push _
    |some n =>
     have htk:=As hw hlc hli
     obtain ⟨_,hy2⟩:=nK hk1 htk
     have e6:IntKind.i64.wrap ((k:Int)+((w.length+1:Nat):Int))=((k+(c::w).length:Nat):Int):=by
      rw [yaz] at hy2 ⊢
      rw [wrap_i64]<;>omega
     simp only [go_sem,nB,nAV,zau,zat,n1,n2,n3,eb,hst,bc,CP,e6,vL]
     refine ⟨by simp only [yaz] at hcw;omega,by omega,su hk1 hc htk hpl hr ((((aX hle hid).push _).push _).push _) ?_ hid ?_ rfl rfl rfl⟩
     ·exact af (ae (ae (aa hcc) (by simp [znq,znr,znb,znd])) (by simp [znq,znr,znb,znd]))
     ·rw [AHeap.get_push_lt _ _ (by simp [AHeap.push,AHeap.set];omega),AHeap.get_push_lt _ _ (by simp [AHeap.push,AHeap.set];omega),AHeap.get_push_lt _ _ (by simp [AHeap.set];omega),AHeap.get_set_same _ _ hid2]
 ·have hk1:s.length≤k:=by simp at h2;omega
  rw [Aa hk1,yaj] at hr
  have hsc:=xD h1' hr
  simp only [go_sem,hsc]
  simp (disch:=first|assumption|omega|(simp;done)|(simp;omega)|(simp only [bt,and_true];first|done|omega|(simp;done))) [↓zmk,beq,ybc,ybd,ybe,ag,wk,wk2,wk1,wkM,wkL,am,ybf,hcc,hle,Bg,hcl]
end Go.AL
open Go Go.AL Go.Proofs
namespace Go.AL
set_option linter.all false
set_option maxRecDepth 10000
end Go.AL
open Go Go.AL Go.Proofs
namespace Go.AL
set_option linter.all false
set_option maxRecDepth 10000
theorem y7:ti Try.prog 67=some ⟨.struct [(0,22,false),(1,3,false)],2,32,.agg [.slice .nil 1 [],.int .i64 0]⟩:=by kernel_rfl
attribute [go_sem] y7
def cod (b:List UInt8) (a:Int):AObj:=.cells [.slice .any 1 (bys b),.int .i64 a]
def oL:List AV→AHeap→(AEnd→AHeap→Prop)→Prop
 |[.slice m 1 l,.int .i64 n],H,K=>∃ b,(l=bys b∧0≤n)∧K (.ret (.ptr H.nx 0)) (H.push (cod (b.take (min (b.length:Int) n).toNat) 0))
 |_,_,_=>False
theorem Bf:EntOk Try.prog 6 (Ent.effect oL):=by
 refine EntOk.effect fun args H K h=>?_
 unfold oL at h
 split at h
 rotate_left
 ·exact h.elim
 rename_i m l n
 obtain ⟨b,⟨rfl,hn⟩,hK⟩:=h
 refine ⟨_,_,hK,?_⟩
 clear hK
 refine ACalls.fW aD TblOk.nil Try.func6 [.tmp 4] (Nat.le_succ _) (T:=az []) (h:=fun hcl hlt=>?_)
 clear hlt
 simp only [go_sem,zlg,yap,zli]
 refine ⟨by omega,?_⟩
 simp (disch:=first|assumption|omega|(simp;done)|(simp;omega)|(simp only [bt,and_true];first|done|omega|(simp;done))) [↓zmk,beq,ybc,ybd,ybe,ag,wk,wk2,wk1,wkM,wkL,am,ybf,hcl,cod]
 (repeat' (first|assumption|omega|exact True.intro|refine And.intro ?_ ?_|refine af ?_|refine aa ?_|refine ae ?_ ?_|refine ah ?_ ?_|refine ak ?_|exact AHeap.Le.refl _|refine AHeap.Le.push ?_ _|refine AHeap.Le.del ?_ ?_|(simp only [bt,and_true,true_and,zmo];first|done|omega|(simp;done))))
theorem mod_lt {x n:Int} (hn:1≤n):0≤(x.tmod n+n).tmod n∧(x.tmod n+n).tmod n<n:=by
 have h1:=Int.lt_tmod_of_pos x (show 0<n by omega)
 rw [Int.tmod_eq_emod_of_nonneg (by omega)]
 exact ⟨Int.emod_nonneg _ (by omega),Int.emod_lt_of_pos _ (by omega)⟩
theorem z4 {l:List Tok} {k:Nat} (h:k<l.length):(cV l).getD k .junk=sm l[k]:=by simp [cV,List.getD_eq_getElem?_getD,h]
end Go.AL
