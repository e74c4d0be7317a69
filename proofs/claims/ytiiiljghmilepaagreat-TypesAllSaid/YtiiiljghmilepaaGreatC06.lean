/- Contracts and plain laws, a part of the proof; no condition of its own. -/
import Derived.Test.YtiiiljghmilepaaGreatLLex
import Derived.Test.YtiiiljghmilepaaGreatR05d
open List renaming length_cons → yaz, length_nil → yba, take_of_length_le → ybc, drop_append → ybd, take_append → ybe, drop_eq_nil_of_le → ybf, append_nil → yaj
open Go Go.AL Go.Proofs
namespace Go.AL
set_option linter.all false
set_option maxRecDepth 10000
theorem B5:ti Tryz.prog 230=some ⟨.struct [(0,3,false),(1,9,false),(2,3,false)],3,32,.agg [.int .i64 0,.str [],.int .i64 0]⟩:=by kernel_rfl
theorem Cl:ti Tryz.prog 328=some ⟨.struct [(0,3,false),(1,9,false),(2,3,false)],3,32,.agg [.int .i64 0,.str [],.int .i64 0]⟩:=by kernel_rfl
theorem Al:ti Tryz.prog 68=some ⟨.slice 230,1,24,.slice .nil 1 []⟩:=by kernel_rfl
theorem z4:ti Tryz.prog 205=some ⟨.slice 328,1,24,.slice .nil 1 []⟩:=by kernel_rfl
theorem zE:ti Tryz.prog 23=some ⟨.int .i64,1,8,.int .i64 0⟩:=by kernel_rfl
attribute [go_sem] B5 Cl Al z4 zE
theorem wQ {t:Bool} {A B:Prop} (e:t=false) (h:B):i7 t A B:=bj (fun h=>by simp [e] at h) (fun _=>h)
theorem tu {P:Program} {Ω:Tbl} {K:Conts} {t:Bool} {a b:Code} {fr:Fr} {H:AHeap} (e:t=false) (h:aw P Ω b K fr H):lF P Ω (.bool t) a b K fr H:=aj (fun h=>by simp [e] at h) (fun _=>h)
/-- a row of texts -/
def sAV (l:List (List UInt8)):List AV:=l.map .str
theorem am {l:List (List UInt8)}:(sAV l).length=l.length:=by simp [sAV]
theorem iQ {l:List (List UInt8)} {i:Nat} (h:i<l.length):(sAV l).getD i .junk=.str (l.getD i []):=by simp [sAV,List.getD_eq_getElem?_getD,h]
theorem fT {n sz:Nat} {l:List AV} (h:∀ x∈l,AV.lt n x):AV.lt n (.slice .any sz l):=by
 rw [AV.lt]
 exact ⟨fun id e=>(by cases e),fun j hj=>h _ (List.getElem_mem hj)⟩
theorem bQ {n:Nat} {l:List (List UInt8)}:AV.lt n (.slice .any 1 (sAV l)):=fT fun x hx=>by
 obtain ⟨s,_,rfl⟩:=List.mem_map.1 hx
 simp only [znb]
theorem zX:[AV.str [38,38],.str [124,124],.str [45,62],.str [61,61],.str [33,61],.str [60,61],.str [62,61],.str [58,58],.str [40],.str [41],.str [33],.str [60],.str [62],.str [43],.str [45]]=sAV syms:=rfl
theorem fk:syms.length=15:=rfl
/-- tokens in memory -/
def tC (t:Tok):AV:=.agg [.int .i64 (t.1:Int),.str t.2.1,.int .i64 (t.2.2:Int)]
def cm (l:List Tok):List AV:=l.map tC
theorem aE {l:List Tok}:(cm l).length=l.length:=by simp [cm]
theorem AF {l:List Tok} {x:List UInt8} {k:Nat}:cm l++[.agg [.int .i64 1,.str x,.int .i64 (k:Int)]]=cm (l++[(1,x,k)]):=by simp [cm,tC]
theorem Af {l:List Tok} {x:List UInt8} {k:Nat}:cm l++[.agg [.int .i64 2,.str x,.int .i64 (k:Int)]]=cm (l++[(2,x,k)]):=by simp [cm,tC]
theorem AB {l:List Tok} {x:List UInt8} {k:Nat}:cm l++[.agg [.int .i64 3,.str x,.int .i64 (k:Int)]]=cm (l++[(3,x,k)]):=by simp [cm,tC]
theorem nQ {k1 k2:IntKind} {a c:Int} {b:List UInt8}:(∀ z,z∈[AV.agg [.int k1 a,.str b,.int k2 c]]→bg z.cells=true)=True:=eq_true fun z hz=>by
 rw [List.mem_singleton.1 hz]
 simp [zik,zgl,zgm,zgn,zgp]
theorem ce {H Hc:AHeap} {i:Nat} {o:AObj} (h:H.Le Hc) (hi:H.nx≤i):H.Le (Hc.set i o):=⟨h.nx,fun j x hj=>by
 have:=AHeap.get_lt hj
 rw [AHeap.get_set_ne _ _ (by omega)]
 exact h.get j x hj⟩
theorem dJ:cm []=[]:=rfl
theorem xk {n:Nat} {l:List Tok}:AV.lt n (.slice .any 3 (cm l)):=fT fun x hx=>by
 obtain ⟨s,_,rfl⟩:=List.mem_map.1 hx
 simp only [tC,znl,zno,znp,zmz,znb,and_true]
theorem zi {n:Nat} {l:List Tok}:ltL n (cm l):=ltL_iff.2 fun j hj=>by
 simp only [cm,List.getElem_map,tC,znl,zno,znp,zmz,znb,and_true]
theorem ku {n id:Nat} {l:List Tok} (h:id<n):AV.lt n (.slice (.own id) 3 (cm l)):=by
 rw [bf]
 exact ⟨fun i e=>by cases e;exact h,zi⟩
def kN (s:List UInt8):AV:=.tup [.slice .any 3 (cm (bn s).1),.int .i64 ((bn s).2.1:Int),.int .i64 ((bn s).2.2:Int)]
def iR:List AV→AHeap→(AV→Prop)→Prop
 |[.str s,.str p],_,K=>K (.bool (f7 s p))
 |_,_,_=>False
theorem mH:EntOk Tryz.prog 116 (Ent.pure iR):=by
 refine EntOk.pure fun args H K h=>?_
 unfold iR at h
 split at h
 rotate_left
 ·exact h.elim
 rename_i s p
 refine ⟨_,h,?_⟩
 clear h
 refine ACalls.fW aF (TblOk.cons lJ TblOk.nil) Tryz.func116 [.tmp 4] (Nat.le_refl _) (T:=aD []) (h:=fun hcl hlt=>?_)
 clear hlt
 simp only [go_sem,g8]
 simp (disch:=first|assumption|omega|(simp;done)|(simp;omega)|(simp only [bt,and_true];first|done|omega|(simp;done))) [↓zmi,beq,ybc,ybd,ybe,ah,wk,wk2,wk1,wkM,wkL,ap,ybf,hcl]
def lX:List AV→AHeap→(AV→Prop)→Prop
 |[],_,K=>K (.slice .any 1 (sAV syms))
 |_,_,_=>False
theorem t4:EntOk Tryz.prog 213 (Ent.pure lX):=by
 refine EntOk.pure fun args H K h=>?_
 unfold lX at h
 split at h
 rotate_left
 ·exact h.elim
 refine ⟨_,h,?_⟩
 clear h
 refine ACalls.fW aF TblOk.nil Tryz.func213 [.tmp 0] (Nat.le_refl _) (T:=aD []) (h:=fun hcl hlt=>?_)
 clear hlt
 simp only [go_sem,zX]
 simp (disch:=first|assumption|omega|(simp;done)|(simp;omega)|(simp only [bt,and_true];first|done|omega|(simp;done))) [↓zmi,beq,ybc,ybd,ybe,ah,wk,wk2,wk1,wkM,wkL,ap,ybf,hcl,bQ]
theorem rc {x:List UInt8} {l:List (List UInt8)} {s:List UInt8}:pI (x::l) s=if f7 s x then x else pI l s:=by rw [pI]
def nB:List AV→AHeap→(AV→Prop)→Prop
 |[.str s],_,K=>K (.str (iu s))
 |_,_,_=>False
theorem wc:EntOk Tryz.prog 117 (Ent.pure nB):=by
 refine EntOk.pure fun args H K h=>?_
 unfold nB at h
 split at h
 rotate_left
 ·exact h.elim
 rename_i s
 refine ⟨_,h,?_⟩
 clear h
 refine ACalls.fW aF (TblOk.cons t4 (TblOk.cons mH TblOk.nil)) Tryz.func117 [.tmp 2] (Nat.le_refl _) (T:=aD []) (h:=fun hcl hlt=>?_)
 clear hlt
 simp only [go_sem,lX,am]
 refine av (A:=Nat) (fun k=>[(0,.str s),(5,.slice .any 1 (sAV syms)),(6,.int .i64 15),(7,.int .i64 (k:Int))]) (fun k=>H) (fun k=>k≤15∧iu s=pI (syms.drop k) s) (fun k=>15 - k) 0 ⟨by omega,rfl⟩ ?_ fun k hk=>?_
 ·(simp only [bkq,enterW,aR,ltF,ne_eq,Nat.reduceEqDiff,reduceCtorEq,bQ,fk];try simp (disch:=first|assumption|omega|(simp;done)|(simp;omega)|(simp only [bt,and_true];first|done|omega|(simp;done))) [↓zmi,beq,ybc,ybd,ybe,ah,wk,wk2,wk1,wkM,wkL,ap,ybf,byq,biq,ag,hcl,bQ,fk];try (repeat' (first|assumption|omega|exact True.intro|refine And.intro ?_ ?_|refine af ?_|refine aa ?_|refine ae ?_ ?_|refine ai ?_ ?_|refine ak ?_|exact AHeap.Le.refl _|refine AHeap.Le.push ?_ _|refine AHeap.Le.del ?_ ?_|(simp only [bt,and_true,true_and,bQ,fk];first|done|omega|(simp;done)))))
 obtain ⟨hk,hs⟩:=hk
 simp only [go_sem]
 refine aj (fun h1=>?_) (fun h1=>?_)
 ·have hk2:k<15:=by simp at h1;omega
  have hk1:k<syms.length:=by rw [fk];exact hk2
  have hg:(sAV syms).getD k .junk=.str (syms.getD k []):=iQ hk1
  have e5:IntKind.i64.wrap ((k:Int)+1)=((k+1:Nat):Int):=by rw [wrap_i64]<;>omega
  have hgk:syms.getD k []=syms[k]:=by simp [List.getD_eq_getElem?_getD,hk1]
  rw [List.drop_eq_getElem_cons hk1,rc] at hs
  rw [hgk] at hg
  generalize syms[k]=x at *
  simp only [go_sem,Int.toNat_natCast,am,fk,hg,iR,e5]
  refine ⟨by omega,aj (fun h2=>?_) (fun h2=>?_)⟩
  ·rw [if_pos h2] at hs
   simp only [go_sem,hs]
   simp (disch:=first|assumption|omega|(simp;done)|(simp;omega)|(simp only [bt,and_true];first|done|omega|(simp;done))) [↓zmi,beq,ybc,ybd,ybe,ah,wk,wk2,wk1,wkM,wkL,ap,ybf,hcl]
  ·rw [if_neg (by simp [h2])] at hs
   simp only [go_sem,e5]
   refine ⟨k+1,⟨by omega,hs⟩,by omega,?_⟩
   (simp only [bkq,enterW,aR,ltF,ne_eq,Nat.reduceEqDiff,reduceCtorEq,bQ];try simp (disch:=first|assumption|omega|(simp;done)|(simp;omega)|(simp only [bt,and_true];first|done|omega|(simp;done))) [↓zmi,beq,ybc,ybd,ybe,ah,wk,wk2,wk1,wkM,wkL,ap,ybf,byq,biq,ag,hcl,bQ];try (repeat' (first|assumption|omega|exact True.intro|refine And.intro ?_ ?_|refine af ?_|refine aa ?_|refine ae ?_ ?_|refine ai ?_ ?_|refine ak ?_|exact AHeap.Le.refl _|refine AHeap.Le.push ?_ _|refine AHeap.Le.del ?_ ?_|(simp only [bt,and_true,true_and,bQ];first|done|omega|(simp;done)))))
 ·have hk1:k=15:=by simp at h1;omega
  subst hk1
  have h0:iu s=[]:=by rw [hs];rfl
  simp only [go_sem,h0]
  simp (disch:=first|assumption|omega|(simp;done)|(simp;omega)|(simp only [bt,and_true];first|done|omega|(simp;done))) [↓zmi,beq,ybc,ybd,ybe,ah,wk,wk2,wk1,wkM,wkL,ap,ybf,hcl]
def ln:List AV→AHeap→(AV→Prop)→Prop
 |[x],_,K=>∃ c,x=bp c∧K (.bool (cL c))
 |_,_,_=>False
theorem pg:EntOk Tryz.prog 119 (Ent.pure ln):=by
 refine EntOk.pure fun args H K h=>?_
 unfold ln at h
 split at h
 rotate_left
 ·exact h.elim
 obtain ⟨c,rfl,hK⟩:=h
 refine ⟨_,hK,?_⟩
 clear hK
 refine ACalls.fW aF TblOk.nil Tryz.func119 [.tmp 2] (Nat.le_refl _) (T:=aD []) (h:=fun hcl hlt=>?_)
 clear hlt
 simp only [go_sem,bp]
 refine bj (fun h1=>?_) (fun h1=>?_)
 ·have e:cL c=decide ((c.toNat:Int)≤122):=by unfold cL;rw [Bool.eq_iff_iff];simp at h1 ⊢;omega
  simp only [go_sem,e]
  simp (disch:=first|assumption|omega|(simp;done)|(simp;omega)|(simp only [bt,and_true];first|done|omega|(simp;done))) [↓zmi,beq,ybc,ybd,ybe,ah,wk,wk2,wk1,wkM,wkL,ap,ybf,hcl]
 ·have e:cL c=false:=by unfold cL;rw [Bool.eq_iff_iff];simp at h1 ⊢;omega
  simp only [go_sem,e]
  simp (disch:=first|assumption|omega|(simp;done)|(simp;omega)|(simp only [bt,and_true];first|done|omega|(simp;done))) [↓zmi,beq,ybc,ybd,ybe,ah,wk,wk2,wk1,wkM,wkL,ap,ybf,hcl]
def sv:List AV→AHeap→(AV→Prop)→Prop
 |[x],_,K=>∃ c,x=bp c∧K (.bool (cH c))
 |_,_,_=>False
theorem A6:EntOk Tryz.prog 214 (Ent.pure sv):=by
 refine EntOk.pure fun args H K h=>?_
 unfold sv at h
 split at h
 rotate_left
 ·exact h.elim
 obtain ⟨c,rfl,hK⟩:=h
 refine ⟨_,hK,?_⟩
 clear hK
 refine ACalls.fW aF (TblOk.cons pg TblOk.nil) Tryz.func214 [.tmp 2] (Nat.le_refl _) (T:=aD []) (h:=fun hcl hlt=>?_)
 clear hlt
 simp only [go_sem,ln]
 refine ⟨c,rfl,?_⟩
 simp only [go_sem,bp]
 have e95:(((c.toNat:Nat):Int)==95)=(c==95):=by rw [Bool.eq_iff_iff];simp [← UInt8.toNat_inj];omega
 rw [e95]
 refine bj (fun h1=>?_) (fun h1=>?_)
 ·have e:cH c=true:=by unfold cH;rw [h1];rfl
  simp only [go_sem,e]
  simp (disch:=first|assumption|omega|(simp;done)|(simp;omega)|(simp only [bt,and_true];first|done|omega|(simp;done))) [↓zmi,beq,ybc,ybd,ybe,ah,wk,wk2,wk1,wkM,wkL,ap,ybf,hcl]
 ·refine bj (fun h2=>?_) (fun h2=>?_)
  ·have h2':48≤c.toNat:=by simp at h2;omega
   refine bj (fun h3=>?_) (fun h3=>?_)
   ·have h3':c.toNat≤57:=by simp at h3;omega
    have e:cH c=true:=by unfold cH;rw [decide_eq_true h2',decide_eq_true h3'];simp
    simp only [go_sem,e]
    simp (disch:=first|assumption|omega|(simp;done)|(simp;omega)|(simp only [bt,and_true];first|done|omega|(simp;done))) [↓zmi,beq,ybc,ybd,ybe,ah,wk,wk2,wk1,wkM,wkL,ap,ybf,hcl]
   ·have h3':¬ c.toNat≤57:=by simp at h3;omega
    have e:cH c=(c==95):=by unfold cH;rw [decide_eq_false h3',h1];simp
    simp only [go_sem,e]
    simp (disch:=first|assumption|omega|(simp;done)|(simp;omega)|(simp only [bt,and_true];first|done|omega|(simp;done))) [↓zmi,beq,ybc,ybd,ybe,ah,wk,wk2,wk1,wkM,wkL,ap,ybf,hcl]
  ·have h2':¬ 48≤c.toNat:=by simp at h2;omega
   have e:cH c=(c==95):=by unfold cH;rw [decide_eq_false h2',h1];simp
   simp only [go_sem,e]
   simp (disch:=first|assumption|omega|(simp;done)|(simp;omega)|(simp only [bt,and_true];first|done|omega|(simp;done))) [↓zmi,beq,ybc,ybd,ybe,ah,wk,wk2,wk1,wkM,wkL,ap,ybf,hcl]
theorem ky {s:List UInt8} {k:Nat} (h:k<s.length):cy (s.drop k)=if cH (s.getD k 0) then s.getD k 0::cy (s.drop (k+1)) else []:=by
 have e:s.getD k 0=s[k]:=by simp [List.getD_eq_getElem?_getD,h]
 rw [e,List.drop_eq_getElem_cons h]
 unfold cy
 by_cases hp:cH s[k]=true
 ·rw [if_pos hp,List.takeWhile_cons_of_pos hp]
 ·rw [if_neg hp,List.takeWhile_cons_of_neg hp]
theorem rA {s:List UInt8} {k:Nat} (h:k<s.length) (hp:cH (s.getD k 0)=true) (hw:cy s=s.take k++cy (s.drop k)):cy s=s.take (k+1)++cy (s.drop (k+1)):=by
 have e:s.getD k 0=s[k]:=by simp [List.getD_eq_getElem?_getD,h]
 rw [ky h,if_pos hp,e] at hw
 rw [hw,List.take_succ_eq_append_getElem h,List.append_assoc];rfl
theorem ol {s:List UInt8} {k:Nat} (h:k<s.length) (hp:cH (s.getD k 0)=false) (hw:cy s=s.take k++cy (s.drop k)):cy s=s.take k:=by
 rw [ky h,if_neg (by rw [hp];decide),yaj] at hw
 exact hw
theorem qe {s:List UInt8} {k:Nat} (h:¬ k<s.length) (hw:cy s=s.take k++cy (s.drop k)):cy s=s.take k:=by
 rw [ybf (by omega)] at hw
 simpa [cy] using hw
def sQ:List AV→AHeap→(AV→Prop)→Prop
 |[.str s],_,K=>s.length≤140737488355328∧K (.str (cy s))
 |_,_,_=>False
theorem A9:EntOk Tryz.prog 118 (Ent.pure sQ):=by
 refine EntOk.pure fun args H K h=>?_
 unfold sQ at h
 split at h
 rotate_left
 ·exact h.elim
 rename_i s
 obtain ⟨hsl,hK⟩:=h
 refine ⟨_,hK,?_⟩
 clear hK
 refine ACalls.fW aF (TblOk.cons A6 TblOk.nil) Tryz.func118 [.tmp 2] (Nat.le_refl _) (T:=aD []) (h:=fun hcl hlt=>?_)
 clear hlt
 simp only [go_sem]
 refine av (A:=Nat) (fun k=>[(0,.str s),(3,.int .i64 (k:Int))]) (fun k=>H) (fun k=>k≤s.length∧cy s=s.take k++cy (s.drop k)) (fun k=>s.length - k) 0 ⟨by omega,by simp⟩ ?_ fun k hk=>?_
 ·(simp only [bkq,enterW,aR,ltF,ne_eq,Nat.reduceEqDiff,reduceCtorEq];try simp (disch:=first|assumption|omega|(simp;done)|(simp;omega)|(simp only [bt,and_true];first|done|omega|(simp;done))) [↓zmi,beq,ybc,ybd,ybe,ah,wk,wk2,wk1,wkM,wkL,ap,ybf,byq,biq,ag,hcl];try (repeat' (first|assumption|omega|exact True.intro|refine And.intro ?_ ?_|refine af ?_|refine aa ?_|refine ae ?_ ?_|refine ai ?_ ?_|refine ak ?_|exact AHeap.Le.refl _|refine AHeap.Le.push ?_ _|refine AHeap.Le.del ?_ ?_|(simp only [bt,and_true,true_and];first|done|omega|(simp;done)))))
 obtain ⟨hk,hs⟩:=hk
 simp only [go_sem]
 refine bj (fun h1=>?_) (fun h1=>?_)
 ·have hk1:k<s.length:=by simp at h1;omega
  have e5:IntKind.i64.wrap ((k:Int)+1)=((k+1:Nat):Int):=by rw [wrap_i64]<;>omega
  simp only [go_sem,sv,Int.toNat_natCast]
  refine ⟨by omega,s.getD k 0,rfl,?_⟩
  refine aj (fun h2=>?_) (fun h2=>?_)
  ·simp only [go_sem,e5]
   refine ⟨k+1,⟨by omega,rA hk1 h2 hs⟩,by omega,?_⟩
   (simp only [bkq,enterW,aR,ltF,ne_eq,Nat.reduceEqDiff,reduceCtorEq];try simp (disch:=first|assumption|omega|(simp;done)|(simp;omega)|(simp only [bt,and_true];first|done|omega|(simp;done))) [↓zmi,beq,ybc,ybd,ybe,ah,wk,wk2,wk1,wkM,wkL,ap,ybf,byq,biq,ag,hcl];try (repeat' (first|assumption|omega|exact True.intro|refine And.intro ?_ ?_|refine af ?_|refine aa ?_|refine ae ?_ ?_|refine ai ?_ ?_|refine ak ?_|exact AHeap.Le.refl _|refine AHeap.Le.push ?_ _|refine AHeap.Le.del ?_ ?_|(simp only [bt,and_true,true_and];first|done|omega|(simp;done)))))
  ·have hw:=ol hk1 h2 hs
   simp only [go_sem,Int.toNat_natCast,hw]
   refine ⟨by omega,?_⟩
   simp (disch:=first|assumption|omega|(simp;done)|(simp;omega)|(simp only [bt,and_true];first|done|omega|(simp;done))) [↓zmi,beq,ybc,ybd,ybe,ah,wk,wk2,wk1,wkM,wkL,ap,ybf,hcl]
 ·have hk1:¬ k<s.length:=by simp at h1;omega
  have hw:=qe hk1 hs
  try simp only [go_sem,Int.toNat_natCast,hw,zau]
  refine ⟨by omega,?_⟩
  simp (disch:=first|assumption|omega|(simp;done)|(simp;omega)|(simp only [bt,and_true];first|done|omega|(simp;done))) [↓zmi,beq,ybc,ybd,ybe,ah,wk,wk2,wk1,wkM,wkL,ap,ybf,hcl]
def oL:List AV→AHeap→(AV→Prop)→Prop
 |[.str s],_,K=>s.length≤140737488355328∧K (kN s)
 |_,_,_=>False
theorem ne {s:List UInt8} {k:Nat} {x:List UInt8} {kd:Nat} (h:k<s.length) (h3:jc (s.drop k)=some (kd,x)):x≠[]∧k+x.length≤s.length:=by
 obtain ⟨g1,g2,_⟩:=jt h3
 rw [List.length_drop] at g2
 exact ⟨g1,by omega⟩
theorem qW {s:List UInt8} {l:List Tok} (h:¬ 400<s.length) (e:rest s 0=(l,none)):bn s=(l,0,0):=by unfold bn;rw [if_neg h,e]
theorem jp {s:List UInt8} {l:List Tok} {k:Nat} (h:¬ 400<s.length) (e:rest s 0=(l,some k)):bn s=([],k,10):=by unfold bn;rw [if_neg h,e]
theorem qR {s:List UInt8} (h:cy s=[]) (h2:iu s=[]):jc s=none:=by unfold jc;rw [h,h2]
theorem u6 {s y:List UInt8} (h:cy s=[]) (h2:iu s=y) (hy:y≠[]):jc s=some (3,y):=by
 unfold jc;rw [h,h2];cases y with
 |nil=>exact absurd rfl hy
 |cons a b=>rfl
theorem uI {s w:List UInt8} {c:UInt8} (h:cy s=c::w) (h2:cL c=true):jc s=some (2,c::w):=by unfold jc;rw [h];dsimp only;rw [if_pos h2]
theorem t5 {s w:List UInt8} {c:UInt8} {n:Nat} (h:cy s=c::w) (h2:cL c=false) (h3:lit (c::w)=some n):jc s=some (1,c::w):=by
 unfold jc;rw [h];dsimp only;rw [if_neg (by rw [h2];decide),h3];rfl
theorem pT {s w:List UInt8} {c:UInt8} (h:cy s=c::w) (h2:cL c=false) (h3:lit (c::w)=none):jc s=none:=by
 unfold jc;rw [h];dsimp only;rw [if_neg (by rw [h2];decide),h3];rfl
theorem lf {s:List UInt8} {pre:List Tok} {k kd id:Nat} {x:List UInt8} {H Hd:AHeap} {fr:Fr} (hk:k<s.length) (hc:s[k]≠32) (ht:jc (s.drop k)=some (kd,x)) (hpl:pre.length≤k)
 (hr:rest s 0=(pre++(rest s k).1,(rest s k).2)) (hle:H.Le Hd) (hcd:Hd.Closed) (hid:H.nx≤id) (hg:Hd.get id=some (.buf 3 (pre.length+1)))
 (f0:Fr.get fr 0=.str s) (f5:Fr.get fr 5=.slice (.own id) 3 (cm (pre++[(kd,x,k)]))) (f6:Fr.get fr 6=.int .i64 ((k+x.length:Nat):Int)) :
 ∃ a':Nat × List Tok × Nat × AHeap,((a'.1≤s.length∧a'.2.1.length≤a'.1∧rest s 0=(a'.2.1++(rest s a'.1).1,(rest s a'.1).2))∧H.Le a'.2.2.2∧a'.2.2.2.Closed∧H.nx≤a'.2.2.1∧a'.2.2.2.get a'.2.2.1=some (.buf 3 a'.2.1.length)) ∧
  s.length - a'.1<s.length - k∧enterW H.nx fr Hd [(0,.str s),(5,.slice (.own a'.2.2.1) 3 (cm a'.2.1)),(6,.int .i64 (a'.1:Int))] a'.2.2.2:=by
 obtain ⟨hy1,hy2⟩:=ne hk ht
 have hyl:0<x.length:=List.length_pos_iff.2 hy1
 have hid2:id<Hd.nx:=AHeap.get_lt hg
 refine ⟨(k+x.length,pre++[(kd,x,k)],id,Hd),⟨⟨hy2,?_,?_⟩,hle,hcd,hid,?_⟩,?_,hle.nx,AHeap.Le.refl _,hcd,?_,?_⟩
 ·simp;omega
 ·rw [hr,A5 hk hc ht,List.append_assoc];rfl
 ·rw [hg];simp
 ·dsimp only;omega
 ·simp only [ltF,znb,zmz,true_and,and_true]
  exact ku hid2
 ·simp [aR,wk2,wk1,wkM,f0,f5,f6]
theorem rQ {s:List UInt8} {k:Nat} (h:k<s.length):f7 (s.drop k) [32]=(s[k]==32):=by
 unfold f7
 rw [List.drop_eq_getElem_cons h]
 generalize s.drop (k+1)=r
 rw [Bool.eq_iff_iff,beq_iff_eq,beq_iff_eq]
 show [s[k]]=[32]↔_
 simp
set_option maxHeartbeats 2000000 in
theorem zU:EntOk Tryz.prog 27 (Ent.pure oL):=by
 refine EntOk.pure fun args H K h=>?_
 unfold oL at h
 split at h
 rotate_left
 ·exact h.elim
 rename_i s
 obtain ⟨hsl,hK⟩:=h
 refine ⟨_,hK,?_⟩
 clear hK
 refine ACalls.fW aF (TblOk.cons mH (TblOk.cons wc (TblOk.cons A9 (TblOk.cons pg (TblOk.cons oh TblOk.nil))))) Tryz.func27 [.tmp 2,.tmp 3,.tmp 4] (Nat.le_refl _) (T:=aD []) (h:=fun hcl hlt=>?_)
 clear hlt
 simp only [go_sem,kN]
 refine aj (fun h1=>?_) (fun h1=>?_)
 ·have h1':400<s.length:=by simp at h1;omega
  have e:bn s=([],0,3):=by unfold bn;rw [if_pos h1']
  simp only [go_sem,e,dJ]
  simp (disch:=first|assumption|omega|(simp;done)|(simp;omega)|(simp only [bt,and_true];first|done|omega|(simp;done))) [↓zmi,beq,ybc,ybd,ybe,ah,wk,wk2,wk1,wkM,wkL,ap,ybf,hcl,fT]
 have h1':¬ 400<s.length:=by simp at h1;omega
 simp only [go_sem]
 refine av (A:=Nat × List Tok × Nat × AHeap) (fun a=>[(0,.str s),(5,.slice (.own a.2.2.1) 3 (cm a.2.1)),(6,.int .i64 (a.1:Int))]) (fun a=>a.2.2.2)
  (fun a=>(a.1≤s.length∧a.2.1.length≤a.1∧rest s 0=(a.2.1++(rest s a.1).1,(rest s a.1).2))∧H.Le a.2.2.2∧a.2.2.2.Closed∧H.nx≤a.2.2.1∧a.2.2.2.get a.2.2.1=some (.buf 3 a.2.1.length))
  (fun a=>s.length - a.1) (0,[],H.nx+1,(H.push (.buf 3 0)).push (.buf 3 0)) ⟨⟨by omega,by simp,by simp⟩,?_,?_,by simp,?_⟩ ?_ fun a ha=>?_
 ·simp (disch:=first|assumption|omega|(simp;done)|(simp;omega)|(simp only [bt,and_true];first|done|omega|(simp;done))) [↓zmi,beq,ybc,ybd,ybe,ah,wk,wk2,wk1,wkM,wkL,ap,ybf,hcl]
 ·(repeat' (first|assumption|omega|exact True.intro|refine And.intro ?_ ?_|refine af ?_|refine aa ?_|refine ae ?_ ?_|refine ai ?_ ?_|refine ak ?_|exact AHeap.Le.refl _|refine AHeap.Le.push ?_ _|refine AHeap.Le.del ?_ ?_|(simp only [bt,and_true,true_and];first|done|omega|(simp;done))))
 ·exact AHeap.get_push_new _ _
 ·(simp only [bkq,enterW,aR,ltF,ne_eq,Nat.reduceEqDiff,reduceCtorEq,dJ];try simp (disch:=first|assumption|omega|(simp;done)|(simp;omega)|(simp only [bt,and_true];first|done|omega|(simp;done))) [↓zmi,beq,ybc,ybd,ybe,ah,wk,wk2,wk1,wkM,wkL,ap,ybf,byq,biq,ag,hcl,dJ];try (repeat' (first|assumption|omega|exact True.intro|refine And.intro ?_ ?_|refine af ?_|refine aa ?_|refine ae ?_ ?_|refine ai ?_ ?_|refine ak ?_|exact AHeap.Le.refl _|refine AHeap.Le.push ?_ _|refine AHeap.Le.del ?_ ?_|(simp only [bt,and_true,true_and,dJ];first|done|omega|(simp;done)))))
 obtain ⟨k,pre,id,Hc⟩:=a
 obtain ⟨⟨hk,hpl,hr⟩,hle,hcc,hid,hst⟩:=ha
 dsimp only at hk hpl hr hle hcc hid hst ⊢
 have hnx:H.nx≤Hc.nx:=hle.nx
 have hid2:id<Hc.nx:=AHeap.get_lt hst
 simp only [go_sem]
 refine aj (fun h2=>?_) (fun h2=>?_)
 ·have hk1:k<s.length:=by simp at h2;omega
  have e5:IntKind.i64.wrap ((k:Int)+1)=((k+1:Nat):Int):=by rw [wrap_i64]<;>omega
  simp only [go_sem,iR,Int.toNat_natCast,List.take_length]
  refine ⟨by omega,aj (fun h3=>?_) (fun h3=>?_)⟩
  ·have hc:s[k]=32:=by rw [rQ hk1] at h3;simpa using h3
   rw [pn hk1 hc] at hr
   simp only [go_sem,e5]
   refine ⟨(k+1,pre,id,Hc),⟨⟨by dsimp only;omega,by dsimp only;omega,hr⟩,hle,hcc,hid,hst⟩,by dsimp only;omega,?_⟩
   (simp only [bkq,enterW,aR,ltF,ne_eq,Nat.reduceEqDiff,reduceCtorEq,hcc,hnx,hid2];try simp (disch:=first|assumption|omega|(simp;done)|(simp;omega)|(simp only [bt,and_true];first|done|omega|(simp;done))) [↓zmi,beq,ybc,ybd,ybe,ah,wk,wk2,wk1,wkM,wkL,ap,ybf,byq,biq,ag,hcl,hcc,hnx,hid2];try (repeat' (first|assumption|omega|exact True.intro|refine And.intro ?_ ?_|refine af ?_|refine aa ?_|refine ae ?_ ?_|refine ai ?_ ?_|refine ak ?_|exact AHeap.Le.refl _|refine AHeap.Le.push ?_ _|refine AHeap.Le.del ?_ ?_|(simp only [bt,and_true,true_and,hcc,hnx,hid2];first|done|omega|(simp;done)))))
   exact ku hid2
  have n1:(id=Hc.nx)=False:=eq_false (by omega)
  have n2:(id=Hc.nx+1)=False:=eq_false (by omega)
  have n3:(id=Hc.nx+1+1)=False:=eq_false (by omega)
  have hc:s[k]≠32:=by rw [rQ hk1] at h3;simpa using h3
  have hsd:(s.drop k).length≤400:=by rw [List.length_drop];omega
  simp only [go_sem,nB,sQ]
  refine ⟨by omega,?_⟩
  cases hw:cy (s.drop k) with
  |nil =>
   have en:(([]:List UInt8) != [])=false:=rfl
   rcases Classical.em (iu (s.drop k)=[]) with hy|hy
   ·have htk:=qR hw hy
    rw [kK hk1 hc htk,yaj] at hr
    have hsc:=jp h1' hr
    have eb:(([]:List UInt8)==[])=true:=rfl
    simp only [go_sem,hsc,hy,en,eb,zau,zat,dJ]
    simp (disch:=first|assumption|omega|(simp;done)|(simp;omega)|(simp only [bt,and_true];first|done|omega|(simp;done))) [↓zmi,beq,ybc,ybd,ybe,ah,wk,wk2,wk1,wkM,wkL,ap,ybf,hcc,hle,hcl]
    exact (hle.push _).push _
   ·have htk:=u6 hw rfl hy
    have eb:(iu (s.drop k)==[])=false:=by simpa using hy
    have eb0:(([]:List UInt8)==[])=true:=rfl
    obtain ⟨hy1,hy2⟩:=ne hk1 htk
    generalize iu (s.drop k)=y at *
    have e6:IntKind.i64.wrap ((k:Int)+(y.length:Int))=((k+y.length:Nat):Int):=by rw [wrap_i64]<;>omega
    simp only [go_sem,en,eb,eb0,zau,zat,n1,n2,hst,aE,AB,e6,nQ]
    refine ⟨by omega,lf hk1 hc htk hpl hr (((ce hle hid).push _).push _) ?_ hid ?_ rfl rfl rfl⟩
    ·exact af (ae (aa hcc) (by simp [zno,znp,zmz,znb]))
    ·rw [AHeap.get_push_lt _ _ (by simp [AHeap.push,AHeap.set];omega),AHeap.get_push_lt _ _ (by simp [AHeap.set];omega),AHeap.get_set_same _ _ hid2]
  |cons c w =>
   have en:((c::w) != [])=true:=rfl
   have eb:((c::w)==[])=false:=rfl
   simp only [go_sem,en,eb,zat,ln]
   refine ⟨by omega,c,rfl,?_⟩
   cases hlc:cL c with
   |true =>
    have htk:=uI hw hlc
    obtain ⟨_,hy2⟩:=ne hk1 htk
    have e6:IntKind.i64.wrap ((k:Int)+((w.length+1:Nat):Int))=((k+(c::w).length:Nat):Int):=by
     rw [yaz] at hy2 ⊢
     rw [wrap_i64]<;>omega
    simp only [go_sem,en,eb,zau,zat,n1,n2,hst,aE,Af,e6,nQ]
    refine ⟨by omega,lf hk1 hc htk hpl hr (((ce hle hid).push _).push _) ?_ hid ?_ rfl rfl rfl⟩
    ·exact af (ae (aa hcc) (by simp [zno,znp,zmz,znb]))
    ·rw [AHeap.get_push_lt _ _ (by simp [AHeap.push,AHeap.set];omega),AHeap.get_push_lt _ _ (by simp [AHeap.set];omega),AHeap.get_set_same _ _ hid2]
   |false =>
    have hcw:(c::w).length≤400:=by rw [← hw];exact Nat.le_trans (List.takeWhile_sublist _).length_le hsd
    simp only [go_sem,en,eb,zau,zat,jP]
    cases hli:lit (c::w) with
    |none =>
     have htk:=pT hw hlc hli
     rw [kK hk1 hc htk,yaj] at hr
     have hsc:=jp h1' hr
     simp only [go_sem,hsc,ox,nAV,zau,zat,dJ]
     refine ⟨by simp only [yaz] at hcw;omega,?_⟩
     simp (disch:=first|assumption|omega|(simp;done)|(simp;omega)|(simp only [bt,and_true];first|done|omega|(simp;done))) [↓zmi,beq,ybc,ybd,ybe,ah,wk,wk2,wk1,wkM,wkL,ap,ybf,hcc,hle,hcl]
     exact ((hle.push _).push _).push _
    |some n =>
     have htk:=t5 hw hlc hli
     obtain ⟨_,hy2⟩:=ne hk1 htk
     have e6:IntKind.i64.wrap ((k:Int)+((w.length+1:Nat):Int))=((k+(c::w).length:Nat):Int):=by
      rw [yaz] at hy2 ⊢
      rw [wrap_i64]<;>omega
     simp only [go_sem,ox,nAV,zau,zat,n1,n2,n3,eb,hst,aE,AF,e6,nQ]
     refine ⟨by simp only [yaz] at hcw;omega,by omega,lf hk1 hc htk hpl hr ((((ce hle hid).push _).push _).push _) ?_ hid ?_ rfl rfl rfl⟩
     ·exact af (ae (ae (aa hcc) (by simp [zno,znp,zmz,znb])) (by simp [zno,znp,zmz,znb]))
     ·rw [AHeap.get_push_lt _ _ (by simp [AHeap.push,AHeap.set];omega),AHeap.get_push_lt _ _ (by simp [AHeap.push,AHeap.set];omega),AHeap.get_push_lt _ _ (by simp [AHeap.set];omega),AHeap.get_set_same _ _ hid2]
 ·have hk1:s.length≤k:=by simp at h2;omega
  rw [uC hk1,yaj] at hr
  have hsc:=qW h1' hr
  simp only [go_sem,hsc]
  simp (disch:=first|assumption|omega|(simp;done)|(simp;omega)|(simp only [bt,and_true];first|done|omega|(simp;done))) [↓zmi,beq,ybc,ybd,ybe,ah,wk,wk2,wk1,wkM,wkL,ap,ybf,hcc,hle,xk,hcl]
end Go.AL
