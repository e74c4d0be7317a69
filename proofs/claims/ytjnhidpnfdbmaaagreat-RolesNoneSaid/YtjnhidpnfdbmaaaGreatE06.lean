/- Lemmas of the proof; no condition. -/
import Derived.Test.YtjnhidpnfdbmaaaGreatN05d
set_option linter.all false
set_option maxRecDepth 10000
open List renaming length_cons → yaz, take_succ_cons → yaq, drop_eq_nil_of_le → ybf, length_nil → yba, take_of_length_le → ybc, drop_append → ybd, take_append → ybe, append_nil → yaj
open Go Go.AL
namespace Go.AL
def fk (c:UInt8):Bool:=decide (97≤c.toNat)&&decide (c.toNat≤122)
def gR (c:UInt8):Bool:=fk c||(decide (48≤c.toNat)&&decide (c.toNat≤57))||c==95
def syms:List (List UInt8):=[[38,38],[124,124],[45,62],[61,61],[33,61],[60,61],[62,61],[58,58],[40],[41],[33],[60],[62],[43],[45]]
def uO (l:List (List UInt8)) (s:List UInt8):List UInt8:=match l with
 |[]=>[]
 |x::l=>if mF s x then x else uO l s
def oZ (s:List UInt8):List UInt8:=uO syms s
def di (s:List UInt8):List UInt8:=s.takeWhile gR
abbrev Tok:=Nat × List UInt8 × Nat
def lA (s:List UInt8):Option (Nat × List UInt8) :=
 match di s with
 |[]=>match oZ s with
  |[]=>none
  |x=>some (3,x)
 |c::w=>if fk c then some (2,c::w) else if (lit (c::w)).isSome then some (1,c::w) else none
def i9:Nat→List UInt8→Nat→List Tok × Option Nat
 |0,_,_=>([],none)
 |_+1,[],_=>([],none)
 |f+1,c::r,k=>if c=32 then i9 f r (k+1) else match lA (c::r) with
  |none=>([],some k)
  |some (kd,x)=>((kd,x,k)::(i9 f ((c::r).drop x.length) (k+x.length)).1,(i9 f ((c::r).drop x.length) (k+x.length)).2)
theorem Bx {s:List UInt8}:∀ {l:List (List UInt8)},(∀ x∈l,x≠[])→uO l s≠[]→uO l s∈l∧mF s (uO l s)=true
 |[],_,h=>absurd rfl h
 |x::l,hl,h=>by
  unfold uO at h ⊢
  by_cases hx:mF s x=true
  ·rw [if_pos hx];exact ⟨List.mem_cons_self,hx⟩
  ·rw [if_neg hx] at h ⊢
   obtain ⟨h1,h2⟩:=Bx (fun y hy=>hl y (List.mem_cons_of_mem _ hy)) h
   exact ⟨List.mem_cons_of_mem _ h1,h2⟩
theorem IR:∀ x∈syms,x≠[]:=by decide
theorem Fx {s p:List UInt8} (h:mF s p=true):p.length≤s.length∧s.take p.length=p:=by
 have h2:=eq_of_beq h
 have:=congrArg List.length h2
 rw [List.length_take] at this
 exact ⟨by omega,h2⟩
theorem mO {p:UInt8→Bool}:∀ (s:List UInt8),s.take (s.takeWhile p).length=s.takeWhile p
 |[]=>rfl
 |c::s=>by
  by_cases h:p c=true
  ·rw [List.takeWhile_cons_of_pos h,yaz,yaq,mO s]
  ·rw [List.takeWhile_cons_of_neg h];rfl
theorem nd {s:List UInt8} {kd:Nat} {x:List UInt8} (h:lA s=some (kd,x)):x≠[]∧x.length≤s.length∧s.take x.length=x:=by
 unfold lA at h
 split at h
 ·split at h
  ·cases h
  ·rename_i y hy
   injection h with h
   injection h with h1 h2
   subst h2
   obtain ⟨_,h4⟩:=Bx IR (s:=s) hy
   exact ⟨hy,Fx h4⟩
 ·rename_i c w hw
  have hx:x=c::w:=by
   split at h
   ·injection h with h;injection h with h1 h2;exact h2.symm
   ·split at h
    ·injection h with h;injection h with h1 h2;exact h2.symm
    ·cases h
  subst hx
  refine ⟨by simp,?_,?_⟩
  ·rw [← hw];exact (List.takeWhile_sublist _).length_le
  ·rw [← hw];exact mO s
theorem ls:∀ (f g:Nat) (s:List UInt8) (k:Nat),s.length≤f→s.length≤g→i9 f s k=i9 g s k
 |0,0,_,_,_,_=>rfl
 |0,g+1,s,k,h,_=>by
  have:s=[]:=List.eq_nil_of_length_eq_zero (by omega)
  subst this;rfl
 |f+1,0,s,k,_,h=>by
  have:s=[]:=List.eq_nil_of_length_eq_zero (by omega)
  subst this;rfl
 |f+1,g+1,[],k,_,_=>rfl
 |f+1,g+1,c::r,k,h1,h2=>by
  simp only [yaz] at h1 h2
  unfold i9
  split
  ·exact ls f g r (k+1) (by omega) (by omega)
  ·split
   ·rfl
   ·rename_i kd x hx
    obtain ⟨h3,h4,_⟩:=nd hx
    have h5:0<x.length:=List.length_pos_iff.2 h3
    have e:=ls f g ((c::r).drop x.length) (k+x.length) (by rw [List.length_drop,yaz];omega) (by rw [List.length_drop,yaz];omega)
    rw [e]
def rest (s:List UInt8) (k:Nat):List Tok × Option Nat:=i9 s.length (s.drop k) k
theorem GW {s:List UInt8} {k:Nat} (h:s.length≤k):rest s k=([],none):=by
 unfold rest
 rw [ybf h]
 cases s.length<;>rfl
theorem A0 {s:List UInt8} {k:Nat} (h:k<s.length) (h2:s[k]=32):rest s k=rest s (k+1):=by
 unfold rest
 obtain ⟨f,hf⟩:∃ f,s.length=f+1:=⟨s.length - 1,by omega⟩
 rw [dcq h,h2]
 rw [hf]
 show i9 (f+1) (32::s.drop (k+1)) k=_
 rw [i9,if_pos rfl]
 exact ls _ _ _ _ (by rw [List.length_drop];omega) (by rw [List.length_drop];omega)
theorem yp {s:List UInt8} {k:Nat} (h:k<s.length) (h2:s[k]≠32) (h3:lA (s.drop k)=none):rest s k=([],some k):=by
 unfold rest
 obtain ⟨f,hf⟩:∃ f,s.length=f+1:=⟨s.length - 1,by omega⟩
 rw [dcq h] at h3 ⊢
 rw [hf]
 rw [i9,if_neg h2,h3]
theorem GQ {s:List UInt8} {k kd:Nat} {x:List UInt8} (h:k<s.length) (h2:s[k]≠32) (h3:lA (s.drop k)=some (kd,x)) :
 rest s k=((kd,x,k)::(rest s (k+x.length)).1,(rest s (k+x.length)).2):=by
 obtain ⟨g1,g2,_⟩:=nd h3
 have g3:0<x.length:=List.length_pos_iff.2 g1
 rw [List.length_drop] at g2
 unfold rest
 obtain ⟨f,hf⟩:∃ f,s.length=f+1:=⟨s.length - 1,by omega⟩
 have e:i9 f ((s.drop k).drop x.length) (k+x.length)=i9 s.length (s.drop (k+x.length)) (k+x.length):=by
  rw [List.drop_drop]
  exact ls _ _ _ _ (by rw [List.length_drop];omega) (by rw [List.length_drop];omega)
 rw [← e,hf]
 rw [dcq h] at h3 ⊢
 rw [i9,if_neg h2,h3]
def cF (s:List UInt8):List Tok × Nat × Nat:=if 400<s.length then ([],0,3) else match rest s 0 with
 |(l,none)=>(l,0,0)
 |(_,some k)=>([],k,10)
end Go.AL
open Go Go.AL Go.Proofs
namespace Go.AL
end Go.AL
open Go Go.AL Go.Proofs
namespace Go.AL
theorem It:ti Tryz.prog 218=some ⟨.struct [(0,3,false),(1,9,false),(2,3,false)],3,32,.agg [.int .i64 0,.str [],.int .i64 0]⟩:=by kernel_rfl
theorem Je:ti Tryz.prog 267=some ⟨.struct [(0,3,false),(1,9,false),(2,3,false)],3,32,.agg [.int .i64 0,.str [],.int .i64 0]⟩:=by kernel_rfl
theorem Fv:ti Tryz.prog 177=some ⟨.slice 218,1,24,.slice .nil 1 []⟩:=by kernel_rfl
theorem FW:ti Tryz.prog 240=some ⟨.slice 267,1,24,.slice .nil 1 []⟩:=by kernel_rfl
theorem Dv:ti Tryz.prog 51=some ⟨.int .i64,1,8,.int .i64 0⟩:=by kernel_rfl
attribute [go_sem] It Je Fv FW Dv
theorem BD {t:Bool} {A B:Prop} (e:t=false) (h:B):kX t A B:=bB (fun h=>by simp [e] at h) (fun _=>h)
theorem wh {P:Program} {Ω:Tbl} {K:Conts} {t:Bool} {a b:Code} {fr:Fr} {H:AHeap} (e:t=false) (h:aw P Ω b K fr H):nO P Ω (.bool t) a b K fr H:=aj (fun h=>by simp [e] at h) (fun _=>h)
def sAV (l:List (List UInt8)):List AV:=l.map .str
theorem lf {l:List (List UInt8)}:(sAV l).length=l.length:=by simp [sAV]
theorem BA {l:List (List UInt8)} {i:Nat} (h:i<l.length):(sAV l).getD i .junk=.str (l.getD i []):=by simp [sAV,gEq,h]
theorem iZ {n sz:Nat} {l:List AV} (h:∀ x∈l,AV.lt n x):AV.lt n (.slice .any sz l):=by
 rw [AV.lt]
 exact ⟨fun id e=>(by cases e),fun j hj=>h _ (gMq hj)⟩
theorem ip {n:Nat} {l:List (List UInt8)}:AV.lt n (.slice .any 1 (sAV l)):=iZ fun x hx=>by
 obtain ⟨s,_,rfl⟩:=List.mem_map.1 hx
 simp only [znh]
theorem Ky:[AV.str [38,38],.str [124,124],.str [45,62],.str [61,61],.str [33,61],.str [60,61],.str [62,61],.str [58,58],.str [40],.str [41],.str [33],.str [60],.str [62],.str [43],.str [45]]=sAV syms:=rfl
theorem mG:syms.length=15:=rfl
def wo (t:Tok):AV:=.agg [.int .i64 (t.1:Int),.str t.2.1,.int .i64 (t.2.2:Int)]
def dH (l:List Tok):List AV:=l.map wo
theorem bG {l:List Tok}:(dH l).length=l.length:=by simp [dH]
theorem Lh {l:List Tok} {x:List UInt8} {k:Nat}:dH l++[.agg [.int .i64 1,.str x,.int .i64 (k:Int)]]=dH (l++[(1,x,k)]):=by simp [dH,wo]
theorem KA {l:List Tok} {x:List UInt8} {k:Nat}:dH l++[.agg [.int .i64 2,.str x,.int .i64 (k:Int)]]=dH (l++[(2,x,k)]):=by simp [dH,wo]
theorem Kh {l:List Tok} {x:List UInt8} {k:Nat}:dH l++[.agg [.int .i64 3,.str x,.int .i64 (k:Int)]]=dH (l++[(3,x,k)]):=by simp [dH,wo]
theorem AG {k1 k2:IntKind} {a c:Int} {b:List UInt8}:(∀ z,z∈[AV.agg [.int k1 a,.str b,.int k2 c]]→bg z.cells=true)=True:=eq_true fun z hz=>by
 rw [List.mem_singleton.1 hz]
 simp [ziq,zgq,zgr,zgs,zgu]
theorem cU {H Hc:AHeap} {i:Nat} {o:AObj} (h:H.Le Hc) (hi:H.nx≤i):H.Le (Hc.set i o):=⟨h.nx,fun j x hj=>by
 have:=glq hj
 rw [AHeap.get_set_ne _ _ (by omega)]
 exact h.get j x hj⟩
theorem kK:dH []=[]:=rfl
theorem Jn {n:Nat} {l:List Tok}:AV.lt n (.slice .any 3 (dH l)):=iZ fun x hx=>by
 obtain ⟨s,_,rfl⟩:=List.mem_map.1 hx
 simp only [wo,znr,znu,znv,znf,znh,and_true]
theorem G8 {n:Nat} {l:List Tok}:ltL n (dH l):=ltL_iff.2 fun j hj=>by
 simp only [dH,List.getElem_map,wo,znr,znu,znv,znf,znh,and_true]
theorem qR {n id:Nat} {l:List Tok} (h:id<n):AV.lt n (.slice (.own id) 3 (dH l)):=by
 rw [aI]
 exact ⟨fun i e=>by cases e;exact h,G8⟩
def we (s:List UInt8):AV:=.tup [.slice .any 3 (dH (cF s).1),.int .i64 ((cF s).2.1:Int),.int .i64 ((cF s).2.2:Int)]
def j0:List AV→AHeap→(AV→Prop)→Prop
 |[.str s,.str p],_,K=>K (.bool (mF s p))
 |_,_,_=>False
theorem pe:EntOk Tryz.prog 143 (Ent.pure j0):=by
 refine Ype fun _ H K h=>?_
 unfold j0 at h
 split at h
 rotate_left
 ·exact h.elim
 rename_i s p
 refine ⟨_,h,?_⟩
 clear h
 refine ACalls.fW ax (tCq nK tNq) Tryz.func143 [.tmp 4] (nrq _) (T:=aq []) (h:=fun hcl hlt=>?_)
 clear hlt
 simp only [go_sem,je]
 exact Z0
def om:List AV→AHeap→(AV→Prop)→Prop
 |[],_,K=>K (.slice .any 1 (sAV syms))
 |_,_,_=>False
theorem xX:EntOk Tryz.prog 167 (Ent.pure om):=by
 refine Ype fun _ H K h=>?_
 unfold om at h
 split at h
 rotate_left
 ·exact h.elim
 refine ⟨_,h,?_⟩
 clear h
 refine ACalls.fW ax tNq Tryz.func167 [.tmp 0] (nrq _) (T:=aq []) (h:=fun hcl hlt=>?_)
 clear hlt
 simp only [go_sem,Ky]
 simp (disch:=first|exact Zd|omega) [↓zmo,beq,ybc,ybd,ybe,ae,wk,wk2,wk1,wkM,wkL,ah,ybf,hcl,ip]
theorem Do {x:List UInt8} {l:List (List UInt8)} {s:List UInt8}:uO (x::l) s=if mF s x then x else uO l s:=by rw [uO]
def qA:List AV→AHeap→(AV→Prop)→Prop
 |[.str s],_,K=>K (.str (oZ s))
 |_,_,_=>False
theorem Aq:EntOk Tryz.prog 144 (Ent.pure qA):=by
 refine Ype fun _ H K h=>?_
 unfold qA at h
 split at h
 rotate_left
 ·exact h.elim
 rename_i s
 refine ⟨_,h,?_⟩
 clear h
 refine ACalls.fW ax (tCq xX (tCq pe tNq)) Tryz.func144 [.tmp 2] (nrq _) (T:=aq []) (h:=fun hcl hlt=>?_)
 clear hlt
 simp only [go_sem,om,lf]
 refine aE (A:=Nat) (fun k=>[(0,.str s),(5,.slice .any 1 (sAV syms)),(6,.int .i64 15),(7,.int .i64 (k:Int))]) (fun k=>H) (fun k=>k≤15∧oZ s=uO (syms.drop k) s) (fun k=>15 - k) 0 ⟨by omega,rfl⟩ ?_ fun k hk=>?_
 ·(simp only [bkq,enterW,aK,ltF,ne_eq,Nat.reduceEqDiff,reduceCtorEq,ip,mG];try simp (disch:=first|exact Zd|omega) [↓zmo,beq,ybc,ybd,ybe,ae,wk,wk2,wk1,wkM,wkL,ah,ybf,byq,biq,aH,hcl,ip,mG];try (repeat' (first|assumption|omega|exact True.intro|refine And.intro ?_ ?_|refine ag ?_|refine af ?_|refine aa ?_ ?_|refine ai ?_ ?_|refine az ?_|exact lRq _|refine lPq ?_ _|refine AHeap.Le.del ?_ ?_|(simp only [bt,and_true,true_and,ip,mG];first|done|omega|(simp;done)))))
 obtain ⟨hk,hs⟩:=hk
 simp only [go_sem]
 refine aj (fun h1=>?_) (fun h1=>?_)
 ·have hk2:k<15:=by simp at h1;omega
  have hk1:k<syms.length:=by rw [mG];exact hk2
  have hg:(sAV syms).getD k .junk=.str (syms.getD k []):=BA hk1
  have e5:=Yk5 k
  have hgk:syms.getD k []=syms[k]:=by simp [gEq,hk1]
  rw [dcq hk1,Do] at hs
  rw [hgk] at hg
  generalize syms[k]=x at *
  simp only [go_sem,iNq,lf,mG,hg,j0,e5]
  refine ⟨by omega,aj (fun h2=>?_) (fun h2=>?_)⟩
  ·rw [if_pos h2] at hs
   simp only [go_sem,hs]
   exact Z0
  ·rw [if_neg (by simp [h2])] at hs
   simp only [go_sem,e5]
   refine ⟨k+1,⟨by omega,hs⟩,by omega,?_⟩
   (simp only [bkq,enterW,aK,ltF,ne_eq,Nat.reduceEqDiff,reduceCtorEq,ip];try simp (disch:=first|exact Zd|omega) [↓zmo,beq,ybc,ybd,ybe,ae,wk,wk2,wk1,wkM,wkL,ah,ybf,byq,biq,aH,hcl,ip];try (repeat' (first|assumption|omega|exact True.intro|refine And.intro ?_ ?_|refine ag ?_|refine af ?_|refine aa ?_ ?_|refine ai ?_ ?_|refine az ?_|exact lRq _|refine lPq ?_ _|refine AHeap.Le.del ?_ ?_|(simp only [bt,and_true,true_and,ip];first|done|omega|(simp;done)))))
 ·have hk1:k=15:=by simp at h1;omega
  subst hk1
  have h0:oZ s=[]:=by rw [hs];rfl
  simp only [go_sem,h0]
  exact Z0
def mV:List AV→AHeap→(AV→Prop)→Prop
 |[x],_,K=>∃ c,x=bY c∧K (.bool (fk c))
 |_,_,_=>False
theorem tL:EntOk Tryz.prog 146 (Ent.pure mV):=by
 refine Ype fun _ H K h=>?_
 unfold mV at h
 split at h
 rotate_left
 ·exact h.elim
 obtain ⟨c,rfl,hK⟩:=h
 refine ⟨_,hK,?_⟩
 clear hK
 refine ACalls.fW ax tNq Tryz.func146 [.tmp 2] (nrq _) (T:=aq []) (h:=fun hcl hlt=>?_)
 clear hlt
 simp only [go_sem,bY]
 refine bB (fun h1=>?_) (fun h1=>?_)
 ·have e:fk c=decide ((c.toNat:Int)≤122):=by unfold fk;rw [Bool.eq_iff_iff];simp at h1 ⊢;omega
  simp only [go_sem,e]
  exact Z0
 ·have e:fk c=false:=by unfold fk;rw [Bool.eq_iff_iff];simp at h1 ⊢;omega
  simp only [go_sem,e]
  exact Z0
def xq:List AV→AHeap→(AV→Prop)→Prop
 |[x],_,K=>∃ c,x=bY c∧K (.bool (gR c))
 |_,_,_=>False
theorem GN:EntOk Tryz.prog 168 (Ent.pure xq):=by
 refine Ype fun _ H K h=>?_
 unfold xq at h
 split at h
 rotate_left
 ·exact h.elim
 obtain ⟨c,rfl,hK⟩:=h
 refine ⟨_,hK,?_⟩
 clear hK
 refine ACalls.fW ax (tCq tL tNq) Tryz.func168 [.tmp 2] (nrq _) (T:=aq []) (h:=fun hcl hlt=>?_)
 clear hlt
 simp only [go_sem,mV]
 refine ⟨c,rfl,?_⟩
 simp only [go_sem,bY]
 have e95:(((c.toNat:Nat):Int)==95)=(c==95):=by rw [Bool.eq_iff_iff];simp [← UInt8.toNat_inj];omega
 rw [e95]
 refine bB (fun h1=>?_) (fun h1=>?_)
 ·have e:gR c=true:=by unfold gR;rw [h1];rfl
  simp only [go_sem,e]
  exact Z0
 ·refine bB (fun h2=>?_) (fun h2=>?_)
  ·have h2':48≤c.toNat:=by simp at h2;omega
   refine bB (fun h3=>?_) (fun h3=>?_)
   ·have h3':c.toNat≤57:=by simp at h3;omega
    have e:gR c=true:=by unfold gR;rw [dtq h2',dtq h3'];simp
    simp only [go_sem,e]
    exact Z0
   ·have h3':¬ c.toNat≤57:=by simp at h3;omega
    have e:gR c=(c==95):=by unfold gR;rw [dfq h3',h1];simp
    simp only [go_sem,e]
    exact Z0
  ·have h2':¬ 48≤c.toNat:=by simp at h2;omega
   have e:gR c=(c==95):=by unfold gR;rw [dfq h2',h1];simp
   simp only [go_sem,e]
   exact Z0
theorem qP {s:List UInt8} {k:Nat} (h:k<s.length):di (s.drop k)=if gR (s.getD k 0) then s.getD k 0::di (s.drop (k+1)) else []:=by
 have e:s.getD k 0=s[k]:=by simp [gEq,h]
 rw [e,dcq h]
 unfold di
 by_cases hp:gR s[k]=true
 ·rw [if_pos hp,List.takeWhile_cons_of_pos hp]
 ·rw [if_neg hp,List.takeWhile_cons_of_neg hp]
theorem Ei {s:List UInt8} {k:Nat} (h:k<s.length) (hp:gR (s.getD k 0)=true) (hw:di s=s.take k++di (s.drop k)):di s=s.take (k+1)++di (s.drop (k+1)):=by
 have e:s.getD k 0=s[k]:=by simp [gEq,h]
 rw [qP h,if_pos hp,e] at hw
 rw [hw,List.take_succ_eq_append_getElem h,List.append_assoc];rfl
theorem yE {s:List UInt8} {k:Nat} (h:k<s.length) (hp:gR (s.getD k 0)=false) (hw:di s=s.take k++di (s.drop k)):di s=s.take k:=by
 rw [qP h,if_neg (by rw [hp];decide),yaj] at hw
 exact hw
theorem AX {s:List UInt8} {k:Nat} (h:¬ k<s.length) (hw:di s=s.take k++di (s.drop k)):di s=s.take k:=by
 rw [ybf (by omega)] at hw
 simpa [di] using hw
def wd:List AV→AHeap→(AV→Prop)→Prop
 |[.str s],_,K=>s.length≤140737488355328∧K (.str (di s))
 |_,_,_=>False
theorem FF:EntOk Tryz.prog 145 (Ent.pure wd):=by
 refine Ype fun _ H K h=>?_
 unfold wd at h
 split at h
 rotate_left
 ·exact h.elim
 rename_i s
 obtain ⟨hsl,hK⟩:=h
 refine ⟨_,hK,?_⟩
 clear hK
 refine ACalls.fW ax (tCq GN tNq) Tryz.func145 [.tmp 2] (nrq _) (T:=aq []) (h:=fun hcl hlt=>?_)
 clear hlt
 simp only [go_sem]
 refine aE (A:=Nat) (fun k=>[(0,.str s),(3,.int .i64 (k:Int))]) (fun k=>H) (fun k=>k≤s.length∧di s=s.take k++di (s.drop k)) (fun k=>s.length - k) 0 ⟨by omega,by simp⟩ ?_ fun k hk=>?_
 ·exact Z5
 obtain ⟨hk,hs⟩:=hk
 simp only [go_sem]
 refine bB (fun h1=>?_) (fun h1=>?_)
 ·have hk1:k<s.length:=by simp at h1;omega
  have e5:=Yk5 k
  simp only [go_sem,xq,iNq]
  refine ⟨by omega,s.getD k 0,rfl,?_⟩
  refine aj (fun h2=>?_) (fun h2=>?_)
  ·simp only [go_sem,e5]
   refine ⟨k+1,⟨by omega,Ei hk1 h2 hs⟩,by omega,?_⟩
   exact Z5
  ·have hw:=yE hk1 h2 hs
   simp only [go_sem,iNq,hw]
   refine ⟨by omega,?_⟩
   exact Z0
 ·have hk1:¬ k<s.length:=by simp at h1;omega
  have hw:=AX hk1 hs
  try simp only [go_sem,iNq,hw,zau]
  refine ⟨by omega,?_⟩
  exact Z0
def rY:List AV→AHeap→(AV→Prop)→Prop
 |[.str s],_,K=>s.length≤140737488355328∧K (we s)
 |_,_,_=>False
theorem se {s:List UInt8} {k:Nat} {x:List UInt8} {kd:Nat} (h:k<s.length) (h3:lA (s.drop k)=some (kd,x)):x≠[]∧k+x.length≤s.length:=by
 obtain ⟨g1,g2,_⟩:=nd h3
 rw [List.length_drop] at g2
 exact ⟨g1,by omega⟩
theorem CL {s:List UInt8} {l:List Tok} (h:¬ 400<s.length) (e:rest s 0=(l,none)):cF s=(l,0,0):=by unfold cF;rw [if_neg h,e]
theorem vh {s:List UInt8} {l:List Tok} {k:Nat} (h:¬ 400<s.length) (e:rest s 0=(l,some k)):cF s=([],k,10):=by unfold cF;rw [if_neg h,e]
theorem CG {s:List UInt8} (h:di s=[]) (h2:oZ s=[]):lA s=none:=by unfold lA;rw [h,h2]
theorem G5 {s y:List UInt8} (h:di s=[]) (h2:oZ s=y) (hy:y≠[]):lA s=some (3,y):=by
 unfold lA;rw [h,h2];cases y with
 |nil=>exact absurd rfl hy
 |cons a b=>rfl
theorem F8 {s w:List UInt8} {c:UInt8} (h:di s=c::w) (h2:fk c=true):lA s=some (2,c::w):=by unfold lA;rw [h];dsimp only;rw [if_pos h2]
theorem GS {s w:List UInt8} {c:UInt8} {n:Nat} (h:di s=c::w) (h2:fk c=false) (h3:lit (c::w)=some n):lA s=some (1,c::w):=by
 unfold lA;rw [h];dsimp only;rw [if_neg (by rw [h2];decide),h3];rfl
theorem FM {s w:List UInt8} {c:UInt8} (h:di s=c::w) (h2:fk c=false) (h3:lit (c::w)=none):lA s=none:=by
 unfold lA;rw [h];dsimp only;rw [if_neg (by rw [h2];decide),h3];rfl
theorem xf {s:List UInt8} {pre:List Tok} {k kd id:Nat} {x:List UInt8} {H Hd:AHeap} {fr:Fr} (hk:k<s.length) (hc:s[k]≠32) (ht:lA (s.drop k)=some (kd,x)) (hpl:pre.length≤k)
 (hr:rest s 0=(pre++(rest s k).1,(rest s k).2)) (hle:H.Le Hd) (hcd:Hd.Closed) (hid:H.nx≤id) (hg:Hd.get id=some (.buf 3 (pre.length+1)))
 (f0:Fr.get fr 0=.str s) (f5:Fr.get fr 5=.slice (.own id) 3 (dH (pre++[(kd,x,k)]))) (f6:Fr.get fr 6=.int .i64 ((k+x.length:Nat):Int)) :
 ∃ a':Nat × List Tok × Nat × AHeap,((a'.1≤s.length∧a'.2.1.length≤a'.1∧rest s 0=(a'.2.1++(rest s a'.1).1,(rest s a'.1).2))∧H.Le a'.2.2.2∧a'.2.2.2.Closed∧H.nx≤a'.2.2.1∧a'.2.2.2.get a'.2.2.1=some (.buf 3 a'.2.1.length)) ∧
  s.length - a'.1<s.length - k∧enterW H.nx fr Hd [(0,.str s),(5,.slice (.own a'.2.2.1) 3 (dH a'.2.1)),(6,.int .i64 (a'.1:Int))] a'.2.2.2:=by
 obtain ⟨hy1,hy2⟩:=se hk ht
 have hyl:0<x.length:=List.length_pos_iff.2 hy1
 have hid2:id<Hd.nx:=glq hg
 refine ⟨(k+x.length,pre++[(kd,x,k)],id,Hd),⟨⟨hy2,?_,?_⟩,hle,hcd,hid,?_⟩,?_,hle.nx,lRq _,hcd,?_,?_⟩
 ·simp;omega
 ·rw [hr,GQ hk hc ht,List.append_assoc];rfl
 ·rw [hg];simp
 ·dsimp only;omega
 ·simp only [ltF,znh,znf,true_and,and_true]
  exact qR hid2
 ·simp [aK,wk2,wk1,wkM,f0,f5,f6]
theorem vQ {s:List UInt8} {k:Nat} (h:k<s.length):mF (s.drop k) [32]=(s[k]==32):=by
 unfold mF
 rw [dcq h]
 generalize s.drop (k+1)=r
 rw [Bool.eq_iff_iff,beq_iff_eq,beq_iff_eq]
 show [s[k]]=[32]↔_
 simp
set_option maxHeartbeats 2000000 in
theorem Gu:EntOk Tryz.prog 114 (Ent.pure rY):=by
 refine Ype fun _ H K h=>?_
 unfold rY at h
 split at h
 rotate_left
 ·exact h.elim
 rename_i s
 obtain ⟨hsl,hK⟩:=h
 refine ⟨_,hK,?_⟩
 clear hK
 refine ACalls.fW ax (tCq pe (tCq Aq (tCq FF (tCq tL (tCq qX tNq))))) Tryz.func114 [.tmp 2,.tmp 3,.tmp 4] (nrq _) (T:=aq []) (h:=fun hcl hlt=>?_)
 clear hlt
 simp only [go_sem,we]
 refine aj (fun h1=>?_) (fun h1=>?_)
 ·have h1':400<s.length:=by simp at h1;omega
  have e:cF s=([],0,3):=by unfold cF;rw [if_pos h1']
  simp only [go_sem,e,kK]
  exact Z6
 have h1':¬ 400<s.length:=by simp at h1;omega
 simp only [go_sem]
 refine aE (A:=Nat × List Tok × Nat × AHeap) (fun a=>[(0,.str s),(5,.slice (.own a.2.2.1) 3 (dH a.2.1)),(6,.int .i64 (a.1:Int))]) (fun a=>a.2.2.2)
  (fun a=>(a.1≤s.length∧a.2.1.length≤a.1∧rest s 0=(a.2.1++(rest s a.1).1,(rest s a.1).2))∧H.Le a.2.2.2∧a.2.2.2.Closed∧H.nx≤a.2.2.1∧a.2.2.2.get a.2.2.1=some (.buf 3 a.2.1.length))
  (fun a=>s.length - a.1) (0,[],H.nx+1,(H.push (.buf 3 0)).push (.buf 3 0)) ⟨⟨by omega,by simp,by simp⟩,?_,?_,by simp,?_⟩ ?_ fun a ha=>?_
 ·exact Z0
 ·(repeat' (first|assumption|omega|exact True.intro|refine And.intro ?_ ?_|refine ag ?_|refine af ?_|refine aa ?_ ?_|refine ai ?_ ?_|refine az ?_|exact lRq _|refine lPq ?_ _|refine AHeap.Le.del ?_ ?_|(simp only [bt,and_true,true_and];first|done|omega|(simp;done))))
 ·exact AHeap.get_push_new _ _
 ·(simp only [bkq,enterW,aK,ltF,ne_eq,Nat.reduceEqDiff,reduceCtorEq,kK];try simp (disch:=first|exact Zd|omega) [↓zmo,beq,ybc,ybd,ybe,ae,wk,wk2,wk1,wkM,wkL,ah,ybf,byq,biq,aH,hcl,kK];try (repeat' (first|assumption|omega|exact True.intro|refine And.intro ?_ ?_|refine ag ?_|refine af ?_|refine aa ?_ ?_|refine ai ?_ ?_|refine az ?_|exact lRq _|refine lPq ?_ _|refine AHeap.Le.del ?_ ?_|(simp only [bt,and_true,true_and,kK];first|done|omega|(simp;done)))))
 obtain ⟨k,pre,id,Hc⟩:=a
 obtain ⟨⟨hk,hpl,hr⟩,hle,hcc,hid,hst⟩:=ha
 dsimp only at hk hpl hr hle hcc hid hst ⊢
 have hnx:H.nx≤Hc.nx:=hle.nx
 have hid2:id<Hc.nx:=glq hst
 simp only [go_sem]
 refine aj (fun h2=>?_) (fun h2=>?_)
 ·have hk1:k<s.length:=by simp at h2;omega
  have e5:=Yk5 k
  simp only [go_sem,j0,iNq,List.take_length]
  refine ⟨by omega,aj (fun h3=>?_) (fun h3=>?_)⟩
  ·have hc:s[k]=32:=by rw [vQ hk1] at h3;simpa using h3
   rw [A0 hk1 hc] at hr
   simp only [go_sem,e5]
   refine ⟨(k+1,pre,id,Hc),⟨⟨by dsimp only;omega,by dsimp only;omega,hr⟩,hle,hcc,hid,hst⟩,by dsimp only;omega,?_⟩
   (simp only [bkq,enterW,aK,ltF,ne_eq,Nat.reduceEqDiff,reduceCtorEq,hcc,hnx,hid2];try simp (disch:=first|exact Zd|omega) [↓zmo,beq,ybc,ybd,ybe,ae,wk,wk2,wk1,wkM,wkL,ah,ybf,byq,biq,aH,hcl,hcc,hnx,hid2];try (repeat' (first|assumption|omega|exact True.intro|refine And.intro ?_ ?_|refine ag ?_|refine af ?_|refine aa ?_ ?_|refine ai ?_ ?_|refine az ?_|exact lRq _|refine lPq ?_ _|refine AHeap.Le.del ?_ ?_|(simp only [bt,and_true,true_and,hcc,hnx,hid2];first|done|omega|(simp;done)))))
   exact qR hid2
  have n1:(id=Hc.nx)=False:=eq_false (by omega)
  have n2:(id=Hc.nx+1)=False:=eq_false (by omega)
  have n3:(id=Hc.nx+1+1)=False:=eq_false (by omega)
  have hc:s[k]≠32:=by rw [vQ hk1] at h3;simpa using h3
  have hsd:(s.drop k).length≤400:=by rw [List.length_drop];omega
  simp only [go_sem,qA,wd]
  refine ⟨by omega,?_⟩
  cases hw:di (s.drop k) with
  |nil =>
   have en:(([]:List UInt8) != [])=false:=rfl
   rcases Classical.em (oZ (s.drop k)=[]) with hy|hy
   ·have htk:=CG hw hy
    rw [yp hk1 hc htk,yaj] at hr
    have hsc:=vh h1' hr
    have eb:(([]:List UInt8)==[])=true:=rfl
    simp only [go_sem,hsc,hy,en,eb,zau,zat,kK]
    simp (disch:=first|exact Zd|omega) [↓zmo,beq,ybc,ybd,ybe,ae,wk,wk2,wk1,wkM,wkL,ah,ybf,hcc,hle,hcl]
    exact (hle.push _).push _
   ·have htk:=G5 hw rfl hy
    have eb:(oZ (s.drop k)==[])=false:=by simpa using hy
    have eb0:(([]:List UInt8)==[])=true:=rfl
    obtain ⟨hy1,hy2⟩:=se hk1 htk
    generalize oZ (s.drop k)=y at *
    have e6:IntKind.i64.wrap ((k:Int)+(y.length:Int))=((k+y.length:Nat):Int):=by rw [wrap_i64]<;>omega
    simp only [go_sem,en,eb,eb0,zau,zat,n1,n2,hst,bG,Kh,e6,AG]
    refine ⟨by omega,xf hk1 hc htk hpl hr (((cU hle hid).push _).push _) ?_ hid ?_ rfl rfl rfl⟩
    ·exact ag (aa (af hcc) (by simp [znu,znv,znf,znh]))
    ·rw [gPq _ _ (by simp [AHeap.push,AHeap.set];omega),gPq _ _ (by simp [AHeap.set];omega),AHeap.get_set_same _ _ hid2]
  |cons c w =>
   have en:((c::w) != [])=true:=rfl
   have eb:((c::w)==[])=false:=rfl
   simp only [go_sem,en,eb,zat,mV]
   refine ⟨by omega,c,rfl,?_⟩
   cases hlc:fk c with
   |true =>
    have htk:=F8 hw hlc
    obtain ⟨_,hy2⟩:=se hk1 htk
    have e6:IntKind.i64.wrap ((k:Int)+((w.length+1:Nat):Int))=((k+(c::w).length:Nat):Int):=by
     rw [yaz] at hy2 ⊢
     rw [wrap_i64]<;>omega
    simp only [go_sem,en,eb,zau,zat,n1,n2,hst,bG,KA,e6,AG]
    refine ⟨by omega,xf hk1 hc htk hpl hr (((cU hle hid).push _).push _) ?_ hid ?_ rfl rfl rfl⟩
    ·exact ag (aa (af hcc) (by simp [znu,znv,znf,znh]))
    ·rw [gPq _ _ (by simp [AHeap.push,AHeap.set];omega),gPq _ _ (by simp [AHeap.set];omega),AHeap.get_set_same _ _ hid2]
   |false =>
    have hcw:(c::w).length≤400:=by rw [← hw];exact Nat.le_trans (List.takeWhile_sublist _).length_le hsd
    simp only [go_sem,en,eb,zau,zat,lk]
    cases hli:lit (c::w) with
    |none =>
     have htk:=FM hw hlc hli
     rw [yp hk1 hc htk,yaj] at hr
     have hsc:=vh h1' hr
     simp only [go_sem,hsc,rP,nAV,zau,zat,kK]
     refine ⟨by simp only [yaz] at hcw;omega,?_⟩
     simp (disch:=first|exact Zd|omega) [↓zmo,beq,ybc,ybd,ybe,ae,wk,wk2,wk1,wkM,wkL,ah,ybf,hcc,hle,hcl]
     exact ((hle.push _).push _).push _
    |some n =>
     have htk:=GS hw hlc hli
     obtain ⟨_,hy2⟩:=se hk1 htk
     have e6:IntKind.i64.wrap ((k:Int)+((w.length+1:Nat):Int))=((k+(c::w).length:Nat):Int):=by
      rw [yaz] at hy2 ⊢
      rw [wrap_i64]<;>omega
     simp only [go_sem,rP,nAV,zau,zat,n1,n2,n3,eb,hst,bG,Lh,e6,AG]
     refine ⟨by simp only [yaz] at hcw;omega,by omega,xf hk1 hc htk hpl hr ((((cU hle hid).push _).push _).push _) ?_ hid ?_ rfl rfl rfl⟩
     ·exact ag (aa (aa (af hcc) (by simp [znu,znv,znf,znh])) (by simp [znu,znv,znf,znh]))
     ·rw [gPq _ _ (by simp [AHeap.push,AHeap.set];omega),gPq _ _ (by simp [AHeap.push,AHeap.set];omega),gPq _ _ (by simp [AHeap.set];omega),AHeap.get_set_same _ _ hid2]
 ·have hk1:s.length≤k:=by simp at h2;omega
  rw [GW hk1,yaj] at hr
  have hsc:=CL h1' hr
  simp only [go_sem,hsc]
  simp (disch:=first|exact Zd|omega) [↓zmo,beq,ybc,ybd,ybe,ae,wk,wk2,wk1,wkM,wkL,ah,ybf,hcc,hle,Jn,hcl]
end Go.AL
open Go Go.AL Go.Proofs
namespace Go.AL
end Go.AL
open Go Go.AL Go.Proofs
namespace Go.AL
theorem Ho:ti Tryz.prog 76=some ⟨.struct [(0,22,false),(1,3,false)],2,32,.agg [.slice .nil 1 [],.int .i64 0]⟩:=by kernel_rfl
attribute [go_sem] Ho
theorem mod_lt {x n:Int} (hn:1≤n):0≤(x.tmod n+n).tmod n∧(x.tmod n+n).tmod n<n:=by
 have h1:=Int.lt_tmod_of_pos x (show 0<n by omega)
 rw [Int.tmod_eq_emod_of_nonneg (by omega)]
 exact ⟨Int.emod_nonneg _ (by omega),Int.emod_lt_of_pos _ (by omega)⟩
theorem EE {l:List Tok} {k:Nat} (h:k<l.length):(dH l).getD k .junk=wo l[k]:=by simp [dH,gEq,h]
end Go.AL
