/- Lemmas of the proof; no condition. -/
import Derived.Test.YtjnhidpnfdbmaaaGreatN05d
set_option linter.all false
set_option maxRecDepth 10000
open List renaming length_cons → yaz, take_succ_cons → yaq, drop_eq_nil_of_le → ybf, length_nil → yba, take_of_length_le → ybc, drop_append → ybd, take_append → ybe, append_nil → yaj
open Go Go.AL
namespace Go.AL
def fE (c:UInt8):Bool:=decide (97≤c.toNat)&&decide (c.toNat≤122)
def gZ (c:UInt8):Bool:=fE c||(decide (48≤c.toNat)&&decide (c.toNat≤57))||c==95
def syms:List (List UInt8):=[[38,38],[124,124],[45,62],[61,61],[33,61],[60,61],[62,61],[58,58],[40],[41],[33],[60],[62],[43],[45]]
def uR (l:List (List UInt8)) (s:List UInt8):List UInt8:=match l with
 |[]=>[]
 |x::l=>if mv s x then x else uR l s
def pC (s:List UInt8):List UInt8:=uR syms s
def dr (s:List UInt8):List UInt8:=s.takeWhile gZ
abbrev Tok:=Nat × List UInt8 × Nat
def lL (s:List UInt8):Option (Nat × List UInt8) :=
 match dr s with
 |[]=>match pC s with
  |[]=>none
  |x=>some (3,x)
 |c::w=>if fE c then some (2,c::w) else if (lit (c::w)).isSome then some (1,c::w) else none
def jl:Nat→List UInt8→Nat→List Tok × Option Nat
 |0,_,_=>([],none)
 |_+1,[],_=>([],none)
 |f+1,c::r,k=>if c=32 then jl f r (k+1) else match lL (c::r) with
  |none=>([],some k)
  |some (kd,x)=>((kd,x,k)::(jl f ((c::r).drop x.length) (k+x.length)).1,(jl f ((c::r).drop x.length) (k+x.length)).2)
theorem BS {s:List UInt8}:∀ {l:List (List UInt8)},(∀ x∈l,x≠[])→uR l s≠[]→uR l s∈l∧mv s (uR l s)=true
 |[],_,h=>absurd rfl h
 |x::l,hl,h=>by
  unfold uR at h ⊢
  by_cases hx:mv s x=true
  ·rw [if_pos hx];exact ⟨List.mem_cons_self,hx⟩
  ·rw [if_neg hx] at h ⊢
   obtain ⟨h1,h2⟩:=BS (fun y hy=>hl y (List.mem_cons_of_mem _ hy)) h
   exact ⟨List.mem_cons_of_mem _ h1,h2⟩
theorem Jq:∀ x∈syms,x≠[]:=by decide
theorem FR {s p:List UInt8} (h:mv s p=true):p.length≤s.length∧s.take p.length=p:=by
 have h2:=eq_of_beq h
 have:=congrArg List.length h2
 rw [List.length_take] at this
 exact ⟨by omega,h2⟩
theorem mI {p:UInt8→Bool}:∀ (s:List UInt8),s.take (s.takeWhile p).length=s.takeWhile p
 |[]=>rfl
 |c::s=>by
  by_cases h:p c=true
  ·rw [List.takeWhile_cons_of_pos h,yaz,yaq,mI s]
  ·rw [List.takeWhile_cons_of_neg h];rfl
theorem nc {s:List UInt8} {kd:Nat} {x:List UInt8} (h:lL s=some (kd,x)):x≠[]∧x.length≤s.length∧s.take x.length=x:=by
 unfold lL at h
 split at h
 ·split at h
  ·cases h
  ·rename_i y hy
   injection h with h
   injection h with h1 h2
   subst h2
   obtain ⟨_,h4⟩:=BS Jq (s:=s) hy
   exact ⟨hy,FR h4⟩
 ·rename_i c w hw
  have hx:x=c::w:=by
   split at h
   ·injection h with h;injection h with h1 h2;exact h2.symm
   ·split at h
    ·injection h with h;injection h with h1 h2;exact h2.symm
    ·cases h
  subst hx
  refine ⟨by simp,?_,?_⟩
  ·rw [← hw];exact (List.takeWhile_sublist _).length_le
  ·rw [← hw];exact mI s
theorem lP:∀ (f g:Nat) (s:List UInt8) (k:Nat),s.length≤f→s.length≤g→jl f s k=jl g s k
 |0,0,_,_,_,_=>rfl
 |0,g+1,s,k,h,_=>by
  have:s=[]:=List.eq_nil_of_length_eq_zero (by omega)
  subst this;rfl
 |f+1,0,s,k,_,h=>by
  have:s=[]:=List.eq_nil_of_length_eq_zero (by omega)
  subst this;rfl
 |f+1,g+1,[],k,_,_=>rfl
 |f+1,g+1,c::r,k,h1,h2=>by
  simp only [yaz] at h1 h2
  unfold jl
  split
  ·exact lP f g r (k+1) (by omega) (by omega)
  ·split
   ·rfl
   ·rename_i kd x hx
    obtain ⟨h3,h4,_⟩:=nc hx
    have h5:0<x.length:=List.length_pos_iff.2 h3
    have e:=lP f g ((c::r).drop x.length) (k+x.length) (by rw [List.length_drop,yaz];omega) (by rw [List.length_drop,yaz];omega)
    rw [e]
def rest (s:List UInt8) (k:Nat):List Tok × Option Nat:=jl s.length (s.drop k) k
theorem FH {s:List UInt8} {k:Nat} (h:s.length≤k):rest s k=([],none):=by
 unfold rest
 rw [ybf h]
 cases s.length<;>rfl
theorem zV {s:List UInt8} {k:Nat} (h:k<s.length) (h2:s[k]=32):rest s k=rest s (k+1):=by
 unfold rest
 obtain ⟨f,hf⟩:∃ f,s.length=f+1:=⟨s.length - 1,by omega⟩
 rw [dcq h,h2]
 rw [hf]
 show jl (f+1) (32::s.drop (k+1)) k=_
 rw [jl,if_pos rfl]
 exact lP _ _ _ _ (by rw [List.length_drop];omega) (by rw [List.length_drop];omega)
theorem zu {s:List UInt8} {k:Nat} (h:k<s.length) (h2:s[k]≠32) (h3:lL (s.drop k)=none):rest s k=([],some k):=by
 unfold rest
 obtain ⟨f,hf⟩:∃ f,s.length=f+1:=⟨s.length - 1,by omega⟩
 rw [dcq h] at h3 ⊢
 rw [hf]
 rw [jl,if_neg h2,h3]
theorem GX {s:List UInt8} {k kd:Nat} {x:List UInt8} (h:k<s.length) (h2:s[k]≠32) (h3:lL (s.drop k)=some (kd,x)) :
 rest s k=((kd,x,k)::(rest s (k+x.length)).1,(rest s (k+x.length)).2):=by
 obtain ⟨g1,g2,_⟩:=nc h3
 have g3:0<x.length:=List.length_pos_iff.2 g1
 rw [List.length_drop] at g2
 unfold rest
 obtain ⟨f,hf⟩:∃ f,s.length=f+1:=⟨s.length - 1,by omega⟩
 have e:jl f ((s.drop k).drop x.length) (k+x.length)=jl s.length (s.drop (k+x.length)) (k+x.length):=by
  rw [List.drop_drop]
  exact lP _ _ _ _ (by rw [List.length_drop];omega) (by rw [List.length_drop];omega)
 rw [← e,hf]
 rw [dcq h] at h3 ⊢
 rw [jl,if_neg h2,h3]
def cD (s:List UInt8):List Tok × Nat × Nat:=if 400<s.length then ([],0,3) else match rest s 0 with
 |(l,none)=>(l,0,0)
 |(_,some k)=>([],k,10)
end Go.AL
open Go Go.AL Go.Proofs
namespace Go.AL
end Go.AL
open Go Go.AL Go.Proofs
namespace Go.AL
theorem H4:ti Tryz.prog 218=some ⟨.struct [(0,3,false),(1,9,false),(2,3,false)],3,32,.agg [.int .i64 0,.str [],.int .i64 0]⟩:=by kernel_rfl
theorem J3:ti Tryz.prog 267=some ⟨.struct [(0,3,false),(1,9,false),(2,3,false)],3,32,.agg [.int .i64 0,.str [],.int .i64 0]⟩:=by kernel_rfl
theorem Hv:ti Tryz.prog 177=some ⟨.slice 218,1,24,.slice .nil 1 []⟩:=by kernel_rfl
theorem GB:ti Tryz.prog 240=some ⟨.slice 267,1,24,.slice .nil 1 []⟩:=by kernel_rfl
theorem Ds:ti Tryz.prog 51=some ⟨.int .i64,1,8,.int .i64 0⟩:=by kernel_rfl
attribute [go_sem] H4 J3 Hv GB Ds
theorem BL {t:Bool} {A B:Prop} (e:t=false) (h:B):ly t A B:=bz (fun h=>by simp [e] at h) (fun _=>h)
theorem wC {P:Program} {Ω:Tbl} {K:Conts} {t:Bool} {a b:Code} {fr:Fr} {H:AHeap} (e:t=false) (h:aw P Ω b K fr H):nU P Ω (.bool t) a b K fr H:=ai (fun h=>by simp [e] at h) (fun _=>h)
def sAV (l:List (List UInt8)):List AV:=l.map .str
theorem lE {l:List (List UInt8)}:(sAV l).length=l.length:=by simp [sAV]
theorem B9 {l:List (List UInt8)} {i:Nat} (h:i<l.length):(sAV l).getD i .junk=.str (l.getD i []):=by simp [sAV,gEq,h]
theorem i7 {n sz:Nat} {l:List AV} (h:∀ x∈l,AV.lt n x):AV.lt n (.slice .any sz l):=by
 rw [AV.lt]
 exact ⟨fun id e=>(by cases e),fun j hj=>h _ (gMq hj)⟩
theorem iL {n:Nat} {l:List (List UInt8)}:AV.lt n (.slice .any 1 (sAV l)):=i7 fun x hx=>by
 obtain ⟨s,_,rfl⟩:=List.mem_map.1 hx
 simp only [znh]
theorem Lb:[AV.str [38,38],.str [124,124],.str [45,62],.str [61,61],.str [33,61],.str [60,61],.str [62,61],.str [58,58],.str [40],.str [41],.str [33],.str [60],.str [62],.str [43],.str [45]]=sAV syms:=rfl
theorem mA:syms.length=15:=rfl
def xv (t:Tok):AV:=.agg [.int .i64 (t.1:Int),.str t.2.1,.int .i64 (t.2.2:Int)]
def dV (l:List Tok):List AV:=l.map xv
theorem bG {l:List Tok}:(dV l).length=l.length:=by simp [dV]
theorem KA {l:List Tok} {x:List UInt8} {k:Nat}:dV l++[.agg [.int .i64 1,.str x,.int .i64 (k:Int)]]=dV (l++[(1,x,k)]):=by simp [dV,xv]
theorem KF {l:List Tok} {x:List UInt8} {k:Nat}:dV l++[.agg [.int .i64 2,.str x,.int .i64 (k:Int)]]=dV (l++[(2,x,k)]):=by simp [dV,xv]
theorem Lq {l:List Tok} {x:List UInt8} {k:Nat}:dV l++[.agg [.int .i64 3,.str x,.int .i64 (k:Int)]]=dV (l++[(3,x,k)]):=by simp [dV,xv]
theorem AU {k1 k2:IntKind} {a c:Int} {b:List UInt8}:(∀ z,z∈[AV.agg [.int k1 a,.str b,.int k2 c]]→bf z.cells=true)=True:=eq_true fun z hz=>by
 rw [List.mem_singleton.1 hz]
 simp [ziq,zgq,zgr,zgs,zgu]
theorem cU {H Hc:AHeap} {i:Nat} {o:AObj} (h:H.Le Hc) (hi:H.nx≤i):H.Le (Hc.set i o):=⟨h.nx,fun j x hj=>by
 have:=glq hj
 rw [AHeap.get_set_ne _ _ (by omega)]
 exact h.get j x hj⟩
theorem lg:dV []=[]:=rfl
theorem HZ {n:Nat} {l:List Tok}:AV.lt n (.slice .any 3 (dV l)):=i7 fun x hx=>by
 obtain ⟨s,_,rfl⟩:=List.mem_map.1 hx
 simp only [xv,znr,znu,znv,znf,znh,and_true]
theorem Gk {n:Nat} {l:List Tok}:ltL n (dV l):=ltL_iff.2 fun j hj=>by
 simp only [dV,List.getElem_map,xv,znr,znu,znv,znf,znh,and_true]
theorem rf {n id:Nat} {l:List Tok} (h:id<n):AV.lt n (.slice (.own id) 3 (dV l)):=by
 rw [aF]
 exact ⟨fun i e=>by cases e;exact h,Gk⟩
def xC (s:List UInt8):AV:=.tup [.slice .any 3 (dV (cD s).1),.int .i64 ((cD s).2.1:Int),.int .i64 ((cD s).2.2:Int)]
def j7:List AV→AHeap→(AV→Prop)→Prop
 |[.str s,.str p],_,K=>K (.bool (mv s p))
 |_,_,_=>False
theorem p9:EntOk Tryz.prog 143 (Ent.pure j7):=by
 refine Ype fun _ H K h=>?_
 unfold j7 at h
 split at h
 rotate_left
 ·exact h.elim
 rename_i s p
 refine ⟨_,h,?_⟩
 clear h
 refine ACalls.fW au (tCq nY tNq) Tryz.func143 [.tmp 4] (nrq _) (T:=aq []) (h:=fun hcl hlt=>?_)
 clear hlt
 simp only [go_sem,ju]
 exact Z0
def oO:List AV→AHeap→(AV→Prop)→Prop
 |[],_,K=>K (.slice .any 1 (sAV syms))
 |_,_,_=>False
theorem yu:EntOk Tryz.prog 167 (Ent.pure oO):=by
 refine Ype fun _ H K h=>?_
 unfold oO at h
 split at h
 rotate_left
 ·exact h.elim
 refine ⟨_,h,?_⟩
 clear h
 refine ACalls.fW au tNq Tryz.func167 [.tmp 0] (nrq _) (T:=aq []) (h:=fun hcl hlt=>?_)
 clear hlt
 simp only [go_sem,Lb]
 simp (disch:=first|exact Zd|omega) [↓zmo,beq,ybc,ybd,ybe,ae,wk,wk2,wk1,wkM,wkL,ah,ybf,hcl,iL]
theorem Eg {x:List UInt8} {l:List (List UInt8)} {s:List UInt8}:uR (x::l) s=if mv s x then x else uR l s:=by rw [uR]
def q9:List AV→AHeap→(AV→Prop)→Prop
 |[.str s],_,K=>K (.str (pC s))
 |_,_,_=>False
theorem AQ:EntOk Tryz.prog 144 (Ent.pure q9):=by
 refine Ype fun _ H K h=>?_
 unfold q9 at h
 split at h
 rotate_left
 ·exact h.elim
 rename_i s
 refine ⟨_,h,?_⟩
 clear h
 refine ACalls.fW au (tCq yu (tCq p9 tNq)) Tryz.func144 [.tmp 2] (nrq _) (T:=aq []) (h:=fun hcl hlt=>?_)
 clear hlt
 simp only [go_sem,oO,lE]
 refine az (A:=Nat) (fun k=>[(0,.str s),(5,.slice .any 1 (sAV syms)),(6,.int .i64 15),(7,.int .i64 (k:Int))]) (fun k=>H) (fun k=>k≤15∧pC s=uR (syms.drop k) s) (fun k=>15 - k) 0 ⟨by omega,rfl⟩ ?_ fun k hk=>?_
 ·(simp only [bkq,enterW,aJ,ltF,ne_eq,Nat.reduceEqDiff,reduceCtorEq,iL,mA];try simp (disch:=first|exact Zd|omega) [↓zmo,beq,ybc,ybd,ybe,ae,wk,wk2,wk1,wkM,wkL,ah,ybf,byq,biq,aG,hcl,iL,mA];try (repeat' (first|assumption|omega|exact True.intro|refine And.intro ?_ ?_|refine ag ?_|refine af ?_|refine aa ?_ ?_|refine aj ?_ ?_|refine ay ?_|exact lRq _|refine lPq ?_ _|refine AHeap.Le.del ?_ ?_|(simp only [bt,and_true,true_and,iL,mA];first|done|omega|(simp;done)))))
 obtain ⟨hk,hs⟩:=hk
 simp only [go_sem]
 refine ai (fun h1=>?_) (fun h1=>?_)
 ·have hk2:k<15:=by simp at h1;omega
  have hk1:k<syms.length:=by rw [mA];exact hk2
  have hg:(sAV syms).getD k .junk=.str (syms.getD k []):=B9 hk1
  have e5:=Yk5 k
  have hgk:syms.getD k []=syms[k]:=by simp [gEq,hk1]
  rw [dcq hk1,Eg] at hs
  rw [hgk] at hg
  generalize syms[k]=x at *
  simp only [go_sem,iNq,lE,mA,hg,j7,e5]
  refine ⟨by omega,ai (fun h2=>?_) (fun h2=>?_)⟩
  ·rw [if_pos h2] at hs
   simp only [go_sem,hs]
   exact Z0
  ·rw [if_neg (by simp [h2])] at hs
   simp only [go_sem,e5]
   refine ⟨k+1,⟨by omega,hs⟩,by omega,?_⟩
   (simp only [bkq,enterW,aJ,ltF,ne_eq,Nat.reduceEqDiff,reduceCtorEq,iL];try simp (disch:=first|exact Zd|omega) [↓zmo,beq,ybc,ybd,ybe,ae,wk,wk2,wk1,wkM,wkL,ah,ybf,byq,biq,aG,hcl,iL];try (repeat' (first|assumption|omega|exact True.intro|refine And.intro ?_ ?_|refine ag ?_|refine af ?_|refine aa ?_ ?_|refine aj ?_ ?_|refine ay ?_|exact lRq _|refine lPq ?_ _|refine AHeap.Le.del ?_ ?_|(simp only [bt,and_true,true_and,iL];first|done|omega|(simp;done)))))
 ·have hk1:k=15:=by simp at h1;omega
  subst hk1
  have h0:pC s=[]:=by rw [hs];rfl
  simp only [go_sem,h0]
  exact Z0
def nG:List AV→AHeap→(AV→Prop)→Prop
 |[x],_,K=>∃ c,x=bW c∧K (.bool (fE c))
 |_,_,_=>False
theorem tP:EntOk Tryz.prog 146 (Ent.pure nG):=by
 refine Ype fun _ H K h=>?_
 unfold nG at h
 split at h
 rotate_left
 ·exact h.elim
 obtain ⟨c,rfl,hK⟩:=h
 refine ⟨_,hK,?_⟩
 clear hK
 refine ACalls.fW au tNq Tryz.func146 [.tmp 2] (nrq _) (T:=aq []) (h:=fun hcl hlt=>?_)
 clear hlt
 simp only [go_sem,bW]
 refine bz (fun h1=>?_) (fun h1=>?_)
 ·have e:fE c=decide ((c.toNat:Int)≤122):=by unfold fE;rw [Bool.eq_iff_iff];simp at h1 ⊢;omega
  simp only [go_sem,e]
  exact Z0
 ·have e:fE c=false:=by unfold fE;rw [Bool.eq_iff_iff];simp at h1 ⊢;omega
  simp only [go_sem,e]
  exact Z0
def xa:List AV→AHeap→(AV→Prop)→Prop
 |[x],_,K=>∃ c,x=bW c∧K (.bool (gZ c))
 |_,_,_=>False
theorem Fk:EntOk Tryz.prog 168 (Ent.pure xa):=by
 refine Ype fun _ H K h=>?_
 unfold xa at h
 split at h
 rotate_left
 ·exact h.elim
 obtain ⟨c,rfl,hK⟩:=h
 refine ⟨_,hK,?_⟩
 clear hK
 refine ACalls.fW au (tCq tP tNq) Tryz.func168 [.tmp 2] (nrq _) (T:=aq []) (h:=fun hcl hlt=>?_)
 clear hlt
 simp only [go_sem,nG]
 refine ⟨c,rfl,?_⟩
 simp only [go_sem,bW]
 have e95:(((c.toNat:Nat):Int)==95)=(c==95):=by rw [Bool.eq_iff_iff];simp [← UInt8.toNat_inj];omega
 rw [e95]
 refine bz (fun h1=>?_) (fun h1=>?_)
 ·have e:gZ c=true:=by unfold gZ;rw [h1];rfl
  simp only [go_sem,e]
  exact Z0
 ·refine bz (fun h2=>?_) (fun h2=>?_)
  ·have h2':48≤c.toNat:=by simp at h2;omega
   refine bz (fun h3=>?_) (fun h3=>?_)
   ·have h3':c.toNat≤57:=by simp at h3;omega
    have e:gZ c=true:=by unfold gZ;rw [dtq h2',dtq h3'];simp
    simp only [go_sem,e]
    exact Z0
   ·have h3':¬ c.toNat≤57:=by simp at h3;omega
    have e:gZ c=(c==95):=by unfold gZ;rw [dfq h3',h1];simp
    simp only [go_sem,e]
    exact Z0
  ·have h2':¬ 48≤c.toNat:=by simp at h2;omega
   have e:gZ c=(c==95):=by unfold gZ;rw [dfq h2',h1];simp
   simp only [go_sem,e]
   exact Z0
theorem rD {s:List UInt8} {k:Nat} (h:k<s.length):dr (s.drop k)=if gZ (s.getD k 0) then s.getD k 0::dr (s.drop (k+1)) else []:=by
 have e:s.getD k 0=s[k]:=by simp [gEq,h]
 rw [e,dcq h]
 unfold dr
 by_cases hp:gZ s[k]=true
 ·rw [if_pos hp,List.takeWhile_cons_of_pos hp]
 ·rw [if_neg hp,List.takeWhile_cons_of_neg hp]
theorem DS {s:List UInt8} {k:Nat} (h:k<s.length) (hp:gZ (s.getD k 0)=true) (hw:dr s=s.take k++dr (s.drop k)):dr s=s.take (k+1)++dr (s.drop (k+1)):=by
 have e:s.getD k 0=s[k]:=by simp [gEq,h]
 rw [rD h,if_pos hp,e] at hw
 rw [hw,List.take_succ_eq_append_getElem h,List.append_assoc];rfl
theorem zj {s:List UInt8} {k:Nat} (h:k<s.length) (hp:gZ (s.getD k 0)=false) (hw:dr s=s.take k++dr (s.drop k)):dr s=s.take k:=by
 rw [rD h,if_neg (by rw [hp];decide),yaj] at hw
 exact hw
theorem Ak {s:List UInt8} {k:Nat} (h:¬ k<s.length) (hw:dr s=s.take k++dr (s.drop k)):dr s=s.take k:=by
 rw [ybf (by omega)] at hw
 simpa [dr] using hw
def w7:List AV→AHeap→(AV→Prop)→Prop
 |[.str s],_,K=>s.length≤140737488355328∧K (.str (dr s))
 |_,_,_=>False
theorem Hu:EntOk Tryz.prog 145 (Ent.pure w7):=by
 refine Ype fun _ H K h=>?_
 unfold w7 at h
 split at h
 rotate_left
 ·exact h.elim
 rename_i s
 obtain ⟨hsl,hK⟩:=h
 refine ⟨_,hK,?_⟩
 clear hK
 refine ACalls.fW au (tCq Fk tNq) Tryz.func145 [.tmp 2] (nrq _) (T:=aq []) (h:=fun hcl hlt=>?_)
 clear hlt
 simp only [go_sem]
 refine az (A:=Nat) (fun k=>[(0,.str s),(3,.int .i64 (k:Int))]) (fun k=>H) (fun k=>k≤s.length∧dr s=s.take k++dr (s.drop k)) (fun k=>s.length - k) 0 ⟨by omega,by simp⟩ ?_ fun k hk=>?_
 ·exact Z5
 obtain ⟨hk,hs⟩:=hk
 simp only [go_sem]
 refine bz (fun h1=>?_) (fun h1=>?_)
 ·have hk1:k<s.length:=by simp at h1;omega
  have e5:=Yk5 k
  simp only [go_sem,xa,iNq]
  refine ⟨by omega,s.getD k 0,rfl,?_⟩
  refine ai (fun h2=>?_) (fun h2=>?_)
  ·simp only [go_sem,e5]
   refine ⟨k+1,⟨by omega,DS hk1 h2 hs⟩,by omega,?_⟩
   exact Z5
  ·have hw:=zj hk1 h2 hs
   simp only [go_sem,iNq,hw]
   refine ⟨by omega,?_⟩
   exact Z0
 ·have hk1:¬ k<s.length:=by simp at h1;omega
  have hw:=Ak hk1 hs
  try simp only [go_sem,iNq,hw,zau]
  refine ⟨by omega,?_⟩
  exact Z0
def sE:List AV→AHeap→(AV→Prop)→Prop
 |[.str s],_,K=>s.length≤140737488355328∧K (xC s)
 |_,_,_=>False
theorem sj {s:List UInt8} {k:Nat} {x:List UInt8} {kd:Nat} (h:k<s.length) (h3:lL (s.drop k)=some (kd,x)):x≠[]∧k+x.length≤s.length:=by
 obtain ⟨g1,g2,_⟩:=nc h3
 rw [List.length_drop] at g2
 exact ⟨g1,by omega⟩
theorem CA {s:List UInt8} {l:List Tok} (h:¬ 400<s.length) (e:rest s 0=(l,none)):cD s=(l,0,0):=by unfold cD;rw [if_neg h,e]
theorem vP {s:List UInt8} {l:List Tok} {k:Nat} (h:¬ 400<s.length) (e:rest s 0=(l,some k)):cD s=([],k,10):=by unfold cD;rw [if_neg h,e]
theorem CL {s:List UInt8} (h:dr s=[]) (h2:pC s=[]):lL s=none:=by unfold lL;rw [h,h2]
theorem Gd {s y:List UInt8} (h:dr s=[]) (h2:pC s=y) (hy:y≠[]):lL s=some (3,y):=by
 unfold lL;rw [h,h2];cases y with
 |nil=>exact absurd rfl hy
 |cons a b=>rfl
theorem HU {s w:List UInt8} {c:UInt8} (h:dr s=c::w) (h2:fE c=true):lL s=some (2,c::w):=by unfold lL;rw [h];dsimp only;rw [if_pos h2]
theorem Hp {s w:List UInt8} {c:UInt8} {n:Nat} (h:dr s=c::w) (h2:fE c=false) (h3:lit (c::w)=some n):lL s=some (1,c::w):=by
 unfold lL;rw [h];dsimp only;rw [if_neg (by rw [h2];decide),h3];rfl
theorem F0 {s w:List UInt8} {c:UInt8} (h:dr s=c::w) (h2:fE c=false) (h3:lit (c::w)=none):lL s=none:=by
 unfold lL;rw [h];dsimp only;rw [if_neg (by rw [h2];decide),h3];rfl
theorem xI {s:List UInt8} {pre:List Tok} {k kd id:Nat} {x:List UInt8} {H Hd:AHeap} {fr:Fr} (hk:k<s.length) (hc:s[k]≠32) (ht:lL (s.drop k)=some (kd,x)) (hpl:pre.length≤k)
 (hr:rest s 0=(pre++(rest s k).1,(rest s k).2)) (hle:H.Le Hd) (hcd:Hd.Closed) (hid:H.nx≤id) (hg:Hd.get id=some (.buf 3 (pre.length+1)))
 (f0:Fr.get fr 0=.str s) (f5:Fr.get fr 5=.slice (.own id) 3 (dV (pre++[(kd,x,k)]))) (f6:Fr.get fr 6=.int .i64 ((k+x.length:Nat):Int)) :
 ∃ a':Nat × List Tok × Nat × AHeap,((a'.1≤s.length∧a'.2.1.length≤a'.1∧rest s 0=(a'.2.1++(rest s a'.1).1,(rest s a'.1).2))∧H.Le a'.2.2.2∧a'.2.2.2.Closed∧H.nx≤a'.2.2.1∧a'.2.2.2.get a'.2.2.1=some (.buf 3 a'.2.1.length)) ∧
  s.length - a'.1<s.length - k∧enterW H.nx fr Hd [(0,.str s),(5,.slice (.own a'.2.2.1) 3 (dV a'.2.1)),(6,.int .i64 (a'.1:Int))] a'.2.2.2:=by
 obtain ⟨hy1,hy2⟩:=sj hk ht
 have hyl:0<x.length:=List.length_pos_iff.2 hy1
 have hid2:id<Hd.nx:=glq hg
 refine ⟨(k+x.length,pre++[(kd,x,k)],id,Hd),⟨⟨hy2,?_,?_⟩,hle,hcd,hid,?_⟩,?_,hle.nx,lRq _,hcd,?_,?_⟩
 ·simp;omega
 ·rw [hr,GX hk hc ht,List.append_assoc];rfl
 ·rw [hg];simp
 ·dsimp only;omega
 ·simp only [ltF,znh,znf,true_and,and_true]
  exact rf hid2
 ·simp [aJ,wk2,wk1,wkM,f0,f5,f6]
theorem u9 {s:List UInt8} {k:Nat} (h:k<s.length):mv (s.drop k) [32]=(s[k]==32):=by
 unfold mv
 rw [dcq h]
 generalize s.drop (k+1)=r
 rw [Bool.eq_iff_iff,beq_iff_eq,beq_iff_eq]
 show [s[k]]=[32]↔_
 simp
set_option maxHeartbeats 2000000 in
theorem ES:EntOk Tryz.prog 114 (Ent.pure sE):=by
 refine Ype fun _ H K h=>?_
 unfold sE at h
 split at h
 rotate_left
 ·exact h.elim
 rename_i s
 obtain ⟨hsl,hK⟩:=h
 refine ⟨_,hK,?_⟩
 clear hK
 refine ACalls.fW au (tCq p9 (tCq AQ (tCq Hu (tCq tP (tCq re tNq))))) Tryz.func114 [.tmp 2,.tmp 3,.tmp 4] (nrq _) (T:=aq []) (h:=fun hcl hlt=>?_)
 clear hlt
 simp only [go_sem,xC]
 refine ai (fun h1=>?_) (fun h1=>?_)
 ·have h1':400<s.length:=by simp at h1;omega
  have e:cD s=([],0,3):=by unfold cD;rw [if_pos h1']
  simp only [go_sem,e,lg]
  exact Z6
 have h1':¬ 400<s.length:=by simp at h1;omega
 simp only [go_sem]
 refine az (A:=Nat × List Tok × Nat × AHeap) (fun a=>[(0,.str s),(5,.slice (.own a.2.2.1) 3 (dV a.2.1)),(6,.int .i64 (a.1:Int))]) (fun a=>a.2.2.2)
  (fun a=>(a.1≤s.length∧a.2.1.length≤a.1∧rest s 0=(a.2.1++(rest s a.1).1,(rest s a.1).2))∧H.Le a.2.2.2∧a.2.2.2.Closed∧H.nx≤a.2.2.1∧a.2.2.2.get a.2.2.1=some (.buf 3 a.2.1.length))
  (fun a=>s.length - a.1) (0,[],H.nx+1,(H.push (.buf 3 0)).push (.buf 3 0)) ⟨⟨by omega,by simp,by simp⟩,?_,?_,by simp,?_⟩ ?_ fun a ha=>?_
 ·exact Z0
 ·(repeat' (first|assumption|omega|exact True.intro|refine And.intro ?_ ?_|refine ag ?_|refine af ?_|refine aa ?_ ?_|refine aj ?_ ?_|refine ay ?_|exact lRq _|refine lPq ?_ _|refine AHeap.Le.del ?_ ?_|(simp only [bt,and_true,true_and];first|done|omega|(simp;done))))
 ·exact AHeap.get_push_new _ _
 ·(simp only [bkq,enterW,aJ,ltF,ne_eq,Nat.reduceEqDiff,reduceCtorEq,lg];try simp (disch:=first|exact Zd|omega) [↓zmo,beq,ybc,ybd,ybe,ae,wk,wk2,wk1,wkM,wkL,ah,ybf,byq,biq,aG,hcl,lg];try (repeat' (first|assumption|omega|exact True.intro|refine And.intro ?_ ?_|refine ag ?_|refine af ?_|refine aa ?_ ?_|refine aj ?_ ?_|refine ay ?_|exact lRq _|refine lPq ?_ _|refine AHeap.Le.del ?_ ?_|(simp only [bt,and_true,true_and,lg];first|done|omega|(simp;done)))))
 obtain ⟨k,pre,id,Hc⟩:=a
 obtain ⟨⟨hk,hpl,hr⟩,hle,hcc,hid,hst⟩:=ha
 dsimp only at hk hpl hr hle hcc hid hst ⊢
 have hnx:H.nx≤Hc.nx:=hle.nx
 have hid2:id<Hc.nx:=glq hst
 simp only [go_sem]
 refine ai (fun h2=>?_) (fun h2=>?_)
 ·have hk1:k<s.length:=by simp at h2;omega
  have e5:=Yk5 k
  simp only [go_sem,j7,iNq,List.take_length]
  refine ⟨by omega,ai (fun h3=>?_) (fun h3=>?_)⟩
  ·have hc:s[k]=32:=by rw [u9 hk1] at h3;simpa using h3
   rw [zV hk1 hc] at hr
   simp only [go_sem,e5]
   refine ⟨(k+1,pre,id,Hc),⟨⟨by dsimp only;omega,by dsimp only;omega,hr⟩,hle,hcc,hid,hst⟩,by dsimp only;omega,?_⟩
   (simp only [bkq,enterW,aJ,ltF,ne_eq,Nat.reduceEqDiff,reduceCtorEq,hcc,hnx,hid2];try simp (disch:=first|exact Zd|omega) [↓zmo,beq,ybc,ybd,ybe,ae,wk,wk2,wk1,wkM,wkL,ah,ybf,byq,biq,aG,hcl,hcc,hnx,hid2];try (repeat' (first|assumption|omega|exact True.intro|refine And.intro ?_ ?_|refine ag ?_|refine af ?_|refine aa ?_ ?_|refine aj ?_ ?_|refine ay ?_|exact lRq _|refine lPq ?_ _|refine AHeap.Le.del ?_ ?_|(simp only [bt,and_true,true_and,hcc,hnx,hid2];first|done|omega|(simp;done)))))
   exact rf hid2
  have n1:(id=Hc.nx)=False:=eq_false (by omega)
  have n2:(id=Hc.nx+1)=False:=eq_false (by omega)
  have n3:(id=Hc.nx+1+1)=False:=eq_false (by omega)
  have hc:s[k]≠32:=by rw [u9 hk1] at h3;simpa using h3
  have hsd:(s.drop k).length≤400:=by rw [List.length_drop];omega
  simp only [go_sem,q9,w7]
  refine ⟨by omega,?_⟩
  cases hw:dr (s.drop k) with
  |nil =>
   have en:(([]:List UInt8) != [])=false:=rfl
   rcases Classical.em (pC (s.drop k)=[]) with hy|hy
   ·have htk:=CL hw hy
    rw [zu hk1 hc htk,yaj] at hr
    have hsc:=vP h1' hr
    have eb:(([]:List UInt8)==[])=true:=rfl
    simp only [go_sem,hsc,hy,en,eb,zau,zat,lg]
    simp (disch:=first|exact Zd|omega) [↓zmo,beq,ybc,ybd,ybe,ae,wk,wk2,wk1,wkM,wkL,ah,ybf,hcc,hle,hcl]
    exact (hle.push _).push _
   ·have htk:=Gd hw rfl hy
    have eb:(pC (s.drop k)==[])=false:=by simpa using hy
    have eb0:(([]:List UInt8)==[])=true:=rfl
    obtain ⟨hy1,hy2⟩:=sj hk1 htk
    generalize pC (s.drop k)=y at *
    have e6:IntKind.i64.wrap ((k:Int)+(y.length:Int))=((k+y.length:Nat):Int):=by rw [wrap_i64]<;>omega
    simp only [go_sem,en,eb,eb0,zau,zat,n1,n2,hst,bG,Lq,e6,AU]
    refine ⟨by omega,xI hk1 hc htk hpl hr (((cU hle hid).push _).push _) ?_ hid ?_ rfl rfl rfl⟩
    ·exact ag (aa (af hcc) (by simp [znu,znv,znf,znh]))
    ·rw [gPq _ _ (by simp [AHeap.push,AHeap.set];omega),gPq _ _ (by simp [AHeap.set];omega),AHeap.get_set_same _ _ hid2]
  |cons c w =>
   have en:((c::w) != [])=true:=rfl
   have eb:((c::w)==[])=false:=rfl
   simp only [go_sem,en,eb,zat,nG]
   refine ⟨by omega,c,rfl,?_⟩
   cases hlc:fE c with
   |true =>
    have htk:=HU hw hlc
    obtain ⟨_,hy2⟩:=sj hk1 htk
    have e6:IntKind.i64.wrap ((k:Int)+((w.length+1:Nat):Int))=((k+(c::w).length:Nat):Int):=by
     rw [yaz] at hy2 ⊢
     rw [wrap_i64]<;>omega
    simp only [go_sem,en,eb,zau,zat,n1,n2,hst,bG,KF,e6,AU]
    refine ⟨by omega,xI hk1 hc htk hpl hr (((cU hle hid).push _).push _) ?_ hid ?_ rfl rfl rfl⟩
    ·exact ag (aa (af hcc) (by simp [znu,znv,znf,znh]))
    ·rw [gPq _ _ (by simp [AHeap.push,AHeap.set];omega),gPq _ _ (by simp [AHeap.set];omega),AHeap.get_set_same _ _ hid2]
   |false =>
    have hcw:(c::w).length≤400:=by rw [← hw];exact Nat.le_trans (List.takeWhile_sublist _).length_le hsd
    simp only [go_sem,en,eb,zau,zat,lz]
    cases hli:lit (c::w) with
    |none =>
     have htk:=F0 hw hlc hli
     rw [zu hk1 hc htk,yaj] at hr
     have hsc:=vP h1' hr
     simp only [go_sem,hsc,rT,nAV,zau,zat,lg]
     refine ⟨by simp only [yaz] at hcw;omega,?_⟩
     simp (disch:=first|exact Zd|omega) [↓zmo,beq,ybc,ybd,ybe,ae,wk,wk2,wk1,wkM,wkL,ah,ybf,hcc,hle,hcl]
     exact ((hle.push _).push _).push _
    |some n =>
     have htk:=Hp hw hlc hli
     obtain ⟨_,hy2⟩:=sj hk1 htk
     have e6:IntKind.i64.wrap ((k:Int)+((w.length+1:Nat):Int))=((k+(c::w).length:Nat):Int):=by
      rw [yaz] at hy2 ⊢
      rw [wrap_i64]<;>omega
     simp only [go_sem,rT,nAV,zau,zat,n1,n2,n3,eb,hst,bG,KA,e6,AU]
     refine ⟨by simp only [yaz] at hcw;omega,by omega,xI hk1 hc htk hpl hr ((((cU hle hid).push _).push _).push _) ?_ hid ?_ rfl rfl rfl⟩
     ·exact ag (aa (aa (af hcc) (by simp [znu,znv,znf,znh])) (by simp [znu,znv,znf,znh]))
     ·rw [gPq _ _ (by simp [AHeap.push,AHeap.set];omega),gPq _ _ (by simp [AHeap.push,AHeap.set];omega),gPq _ _ (by simp [AHeap.set];omega),AHeap.get_set_same _ _ hid2]
 ·have hk1:s.length≤k:=by simp at h2;omega
  rw [FH hk1,yaj] at hr
  have hsc:=CA h1' hr
  simp only [go_sem,hsc]
  simp (disch:=first|exact Zd|omega) [↓zmo,beq,ybc,ybd,ybe,ae,wk,wk2,wk1,wkM,wkL,ah,ybf,hcc,hle,HZ,hcl]
end Go.AL
open Go Go.AL Go.Proofs
namespace Go.AL
end Go.AL
open Go Go.AL Go.Proofs
namespace Go.AL
theorem FK:ti Tryz.prog 76=some ⟨.struct [(0,22,false),(1,3,false)],2,32,.agg [.slice .nil 1 [],.int .i64 0]⟩:=by kernel_rfl
attribute [go_sem] FK
theorem mod_lt {x n:Int} (hn:1≤n):0≤(x.tmod n+n).tmod n∧(x.tmod n+n).tmod n<n:=by
 have h1:=Int.lt_tmod_of_pos x (show 0<n by omega)
 rw [Int.tmod_eq_emod_of_nonneg (by omega)]
 exact ⟨Int.emod_nonneg _ (by omega),Int.emod_lt_of_pos _ (by omega)⟩
theorem FF {l:List Tok} {k:Nat} (h:k<l.length):(dV l).getD k .junk=xv l[k]:=by simp [dV,gEq,h]
end Go.AL
