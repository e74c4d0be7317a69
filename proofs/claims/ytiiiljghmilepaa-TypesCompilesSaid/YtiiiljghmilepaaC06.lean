/- Contracts and plain laws, a part of the proof; no condition of its own. -/
import Derived.Test.YtiiiljghmilepaaLLex
import Derived.Test.YtiiiljghmilepaaR05d
open List renaming length_cons → yaz, length_nil → yba, take_of_length_le → ybc, drop_append → ybd, take_append → ybe, drop_eq_nil_of_le → ybf, append_nil → yaj
open Go Go.AL Go.Proofs
namespace Go.AL
set_option linter.all false
set_option maxRecDepth 10000
theorem zi:ti Try.prog 97=some ⟨.struct [(0,3,false),(1,9,false),(2,3,false)],3,32,.agg [.int .i64 0,.str [],.int .i64 0]⟩:=by kernel_rfl
theorem yH:ti Try.prog 104=some ⟨.struct [(0,3,false),(1,9,false),(2,3,false)],3,32,.agg [.int .i64 0,.str [],.int .i64 0]⟩:=by kernel_rfl
theorem wV:ti Try.prog 26=some ⟨.slice 97,1,24,.slice .nil 1 []⟩:=by kernel_rfl
theorem xh:ti Try.prog 30=some ⟨.slice 104,1,24,.slice .nil 1 []⟩:=by kernel_rfl
theorem xS:ti Try.prog 27=some ⟨.int .i64,1,8,.int .i64 0⟩:=by kernel_rfl
attribute [go_sem] zi yH wV xh xS
theorem tj {t:Bool} {A B:Prop} (e:t=false) (h:B):gB t A B:=bb (fun h=>by simp [e] at h) (fun _=>h)
theorem p9 {P:Program} {Ω:Tbl} {K:Conts} {t:Bool} {a b:Code} {fr:Fr} {H:AHeap} (e:t=false) (h:aw P Ω b K fr H):jK P Ω (.bool t) a b K fr H:=ak (fun h=>by simp [e] at h) (fun _=>h)
/-- a row of texts -/
def sAV (l:List (List UInt8)):List AV:=l.map .str
theorem ai {l:List (List UInt8)}:(sAV l).length=l.length:=by simp [sAV]
theorem gf {l:List (List UInt8)} {i:Nat} (h:i<l.length):(sAV l).getD i .junk=.str (l.getD i []):=by simp [sAV,List.getD_eq_getElem?_getD,h]
theorem eL {n sz:Nat} {l:List AV} (h:∀ x∈l,AV.lt n x):AV.lt n (.slice .any sz l):=by
 rw [AV.lt]
 exact ⟨fun id e=>(by cases e),fun j hj=>h _ (List.getElem_mem hj)⟩
theorem br {n:Nat} {l:List (List UInt8)}:AV.lt n (.slice .any 1 (sAV l)):=eL fun x hx=>by
 obtain ⟨s,_,rfl⟩:=List.mem_map.1 hx
 simp only [znb]
theorem xa:[AV.str [38,38],.str [124,124],.str [45,62],.str [61,61],.str [33,61],.str [60,61],.str [62,61],.str [58,58],.str [40],.str [41],.str [33],.str [60],.str [62],.str [43],.str [45]]=sAV syms:=rfl
theorem dO:syms.length=15:=rfl
/-- tokens in memory -/
def pu (t:Tok):AV:=.agg [.int .i64 (t.1:Int),.str t.2.1,.int .i64 (t.2.2:Int)]
def bR (l:List Tok):List AV:=l.map pu
theorem aB {l:List Tok}:(bR l).length=l.length:=by simp [bR]
theorem xM {l:List Tok} {x:List UInt8} {k:Nat}:bR l++[.agg [.int .i64 1,.str x,.int .i64 (k:Int)]]=bR (l++[(1,x,k)]):=by simp [bR,pu]
theorem xm {l:List Tok} {x:List UInt8} {k:Nat}:bR l++[.agg [.int .i64 2,.str x,.int .i64 (k:Int)]]=bR (l++[(2,x,k)]):=by simp [bR,pu]
theorem vI {l:List Tok} {x:List UInt8} {k:Nat}:bR l++[.agg [.int .i64 3,.str x,.int .i64 (k:Int)]]=bR (l++[(3,x,k)]):=by simp [bR,pu]
theorem lD {k1 k2:IntKind} {a c:Int} {b:List UInt8}:(∀ z,z∈[AV.agg [.int k1 a,.str b,.int k2 c]]→aX z.cells=true)=True:=eq_true fun z hz=>by
 rw [List.mem_singleton.1 hz]
 simp [zik,zgl,zgm,zgn,zgp]
theorem cm {H Hc:AHeap} {i:Nat} {o:AObj} (h:H.Le Hc) (hi:H.nx≤i):H.Le (Hc.set i o):=⟨h.nx,fun j x hj=>by
 have:=AHeap.get_lt hj
 rw [AHeap.get_set_ne _ _ (by omega)]
 exact h.get j x hj⟩
theorem cM:bR []=[]:=rfl
theorem tD {n:Nat} {l:List Tok}:AV.lt n (.slice .any 3 (bR l)):=eL fun x hx=>by
 obtain ⟨s,_,rfl⟩:=List.mem_map.1 hx
 simp only [pu,znl,zno,znp,zmz,znb,and_true]
theorem wY {n:Nat} {l:List Tok}:ltL n (bR l):=ltL_iff.2 fun j hj=>by
 simp only [bR,List.getElem_map,pu,znl,zno,znp,zmz,znb,and_true]
theorem iW {n id:Nat} {l:List Tok} (h:id<n):AV.lt n (.slice (.own id) 3 (bR l)):=by
 rw [bx]
 exact ⟨fun i e=>by cases e;exact h,wY⟩
def iK (s:List UInt8):AV:=.tup [.slice .any 3 (bR (bp s).1),.int .i64 ((bp s).2.1:Int),.int .i64 ((bp s).2.2:Int)]
def gd:List AV→AHeap→(AV→Prop)→Prop
 |[.str s,.str p],_,K=>K (.bool (eP s p))
 |_,_,_=>False
theorem kF:EntOk Try.prog 30 (Ent.pure gd):=by
 refine EntOk.pure fun args H K h=>?_
 unfold gd at h
 split at h
 rotate_left
 ·exact h.elim
 rename_i s p
 refine ⟨_,h,?_⟩
 clear h
 refine ACalls.fW aI (TblOk.cons jS TblOk.nil) Try.func30 [.tmp 4] (Nat.le_refl _) (T:=aA []) (h:=fun hcl hlt=>?_)
 clear hlt
 simp only [go_sem,fA]
 simp (disch:=first|assumption|omega|(simp;done)|(simp;omega)|(simp only [bt,and_true];first|done|omega|(simp;done))) [↓zmi,beq,ybc,ybd,ybe,ag,wk,wk2,wk1,wkM,wkL,am,ybf,hcl]
def j4:List AV→AHeap→(AV→Prop)→Prop
 |[],_,K=>K (.slice .any 1 (sAV syms))
 |_,_,_=>False
theorem qu:EntOk Try.prog 55 (Ent.pure j4):=by
 refine EntOk.pure fun args H K h=>?_
 unfold j4 at h
 split at h
 rotate_left
 ·exact h.elim
 refine ⟨_,h,?_⟩
 clear h
 refine ACalls.fW aI TblOk.nil Try.func55 [.tmp 0] (Nat.le_refl _) (T:=aA []) (h:=fun hcl hlt=>?_)
 clear hlt
 simp only [go_sem,xa]
 simp (disch:=first|assumption|omega|(simp;done)|(simp;omega)|(simp only [bt,and_true];first|done|omega|(simp;done))) [↓zmi,beq,ybc,ybd,ybe,ag,wk,wk2,wk1,wkM,wkL,am,ybf,hcl,br]
theorem oS {x:List UInt8} {l:List (List UInt8)} {s:List UInt8}:nD (x::l) s=if eP s x then x else nD l s:=by rw [nD]
def lv:List AV→AHeap→(AV→Prop)→Prop
 |[.str s],_,K=>K (.str (fQ s))
 |_,_,_=>False
theorem rW:EntOk Try.prog 31 (Ent.pure lv):=by
 refine EntOk.pure fun args H K h=>?_
 unfold lv at h
 split at h
 rotate_left
 ·exact h.elim
 rename_i s
 refine ⟨_,h,?_⟩
 clear h
 refine ACalls.fW aI (TblOk.cons qu (TblOk.cons kF TblOk.nil)) Try.func31 [.tmp 2] (Nat.le_refl _) (T:=aA []) (h:=fun hcl hlt=>?_)
 clear hlt
 simp only [go_sem,j4,ai]
 refine ax (A:=Nat) (fun k=>[(0,.str s),(5,.slice .any 1 (sAV syms)),(6,.int .i64 15),(7,.int .i64 (k:Int))]) (fun k=>H) (fun k=>k≤15∧fQ s=nD (syms.drop k) s) (fun k=>15 - k) 0 ⟨by omega,rfl⟩ ?_ fun k hk=>?_
 ·(simp only [bkq,enterW,aR,ltF,ne_eq,Nat.reduceEqDiff,reduceCtorEq,br,dO];try simp (disch:=first|assumption|omega|(simp;done)|(simp;omega)|(simp only [bt,and_true];first|done|omega|(simp;done))) [↓zmi,beq,ybc,ybd,ybe,ag,wk,wk2,wk1,wkM,wkL,am,ybf,byq,biq,ae,hcl,br,dO];try (repeat' (first|assumption|omega|exact True.intro|refine And.intro ?_ ?_|refine af ?_|refine aa ?_|refine ac ?_ ?_|refine ah ?_ ?_|refine aj ?_|exact AHeap.Le.refl _|refine AHeap.Le.push ?_ _|refine AHeap.Le.del ?_ ?_|(simp only [bt,and_true,true_and,br,dO];first|done|omega|(simp;done)))))
 obtain ⟨hk,hs⟩:=hk
 simp only [go_sem]
 refine ak (fun h1=>?_) (fun h1=>?_)
 ·have hk2:k<15:=by simp at h1;omega
  have hk1:k<syms.length:=by rw [dO];exact hk2
  have hg:(sAV syms).getD k .junk=.str (syms.getD k []):=gf hk1
  have e5:IntKind.i64.wrap ((k:Int)+1)=((k+1:Nat):Int):=by rw [wrap_i64]<;>omega
  have hgk:syms.getD k []=syms[k]:=by simp [List.getD_eq_getElem?_getD,hk1]
  rw [List.drop_eq_getElem_cons hk1,oS] at hs
  rw [hgk] at hg
  generalize syms[k]=x at *
  simp only [go_sem,Int.toNat_natCast,ai,dO,hg,gd,e5]
  refine ⟨by omega,ak (fun h2=>?_) (fun h2=>?_)⟩
  ·rw [if_pos h2] at hs
   simp only [go_sem,hs]
   simp (disch:=first|assumption|omega|(simp;done)|(simp;omega)|(simp only [bt,and_true];first|done|omega|(simp;done))) [↓zmi,beq,ybc,ybd,ybe,ag,wk,wk2,wk1,wkM,wkL,am,ybf,hcl]
  ·rw [if_neg (by simp [h2])] at hs
   simp only [go_sem,e5]
   refine ⟨k+1,⟨by omega,hs⟩,by omega,?_⟩
   (simp only [bkq,enterW,aR,ltF,ne_eq,Nat.reduceEqDiff,reduceCtorEq,br];try simp (disch:=first|assumption|omega|(simp;done)|(simp;omega)|(simp only [bt,and_true];first|done|omega|(simp;done))) [↓zmi,beq,ybc,ybd,ybe,ag,wk,wk2,wk1,wkM,wkL,am,ybf,byq,biq,ae,hcl,br];try (repeat' (first|assumption|omega|exact True.intro|refine And.intro ?_ ?_|refine af ?_|refine aa ?_|refine ac ?_ ?_|refine ah ?_ ?_|refine aj ?_|exact AHeap.Le.refl _|refine AHeap.Le.push ?_ _|refine AHeap.Le.del ?_ ?_|(simp only [bt,and_true,true_and,br];first|done|omega|(simp;done)))))
 ·have hk1:k=15:=by simp at h1;omega
  subst hk1
  have h0:fQ s=[]:=by rw [hs];rfl
  simp only [go_sem,h0]
  simp (disch:=first|assumption|omega|(simp;done)|(simp;omega)|(simp only [bt,and_true];first|done|omega|(simp;done))) [↓zmi,beq,ybc,ybd,ybe,ag,wk,wk2,wk1,wkM,wkL,am,ybf,hcl]
def jn:List AV→AHeap→(AV→Prop)→Prop
 |[x],_,K=>∃ c,x=bf c∧K (.bool (ce c))
 |_,_,_=>False
theorem nd:EntOk Try.prog 33 (Ent.pure jn):=by
 refine EntOk.pure fun args H K h=>?_
 unfold jn at h
 split at h
 rotate_left
 ·exact h.elim
 obtain ⟨c,rfl,hK⟩:=h
 refine ⟨_,hK,?_⟩
 clear hK
 refine ACalls.fW aI TblOk.nil Try.func33 [.tmp 2] (Nat.le_refl _) (T:=aA []) (h:=fun hcl hlt=>?_)
 clear hlt
 simp only [go_sem,bf]
 refine bb (fun h1=>?_) (fun h1=>?_)
 ·have e:ce c=decide ((c.toNat:Int)≤122):=by unfold ce;rw [Bool.eq_iff_iff];simp at h1 ⊢;omega
  simp only [go_sem,e]
  simp (disch:=first|assumption|omega|(simp;done)|(simp;omega)|(simp only [bt,and_true];first|done|omega|(simp;done))) [↓zmi,beq,ybc,ybd,ybe,ag,wk,wk2,wk1,wkM,wkL,am,ybf,hcl]
 ·have e:ce c=false:=by unfold ce;rw [Bool.eq_iff_iff];simp at h1 ⊢;omega
  simp only [go_sem,e]
  simp (disch:=first|assumption|omega|(simp;done)|(simp;omega)|(simp only [bt,and_true];first|done|omega|(simp;done))) [↓zmi,beq,ybc,ybd,ybe,ag,wk,wk2,wk1,wkM,wkL,am,ybf,hcl]
def po:List AV→AHeap→(AV→Prop)→Prop
 |[x],_,K=>∃ c,x=bf c∧K (.bool (cb c))
 |_,_,_=>False
theorem xt:EntOk Try.prog 56 (Ent.pure po):=by
 refine EntOk.pure fun args H K h=>?_
 unfold po at h
 split at h
 rotate_left
 ·exact h.elim
 obtain ⟨c,rfl,hK⟩:=h
 refine ⟨_,hK,?_⟩
 clear hK
 refine ACalls.fW aI (TblOk.cons nd TblOk.nil) Try.func56 [.tmp 2] (Nat.le_refl _) (T:=aA []) (h:=fun hcl hlt=>?_)
 clear hlt
 simp only [go_sem,jn]
 refine ⟨c,rfl,?_⟩
 simp only [go_sem,bf]
 have e95:(((c.toNat:Nat):Int)==95)=(c==95):=by rw [Bool.eq_iff_iff];simp [← UInt8.toNat_inj];omega
 rw [e95]
 refine bb (fun h1=>?_) (fun h1=>?_)
 ·have e:cb c=true:=by unfold cb;rw [h1];rfl
  simp only [go_sem,e]
  simp (disch:=first|assumption|omega|(simp;done)|(simp;omega)|(simp only [bt,and_true];first|done|omega|(simp;done))) [↓zmi,beq,ybc,ybd,ybe,ag,wk,wk2,wk1,wkM,wkL,am,ybf,hcl]
 ·refine bb (fun h2=>?_) (fun h2=>?_)
  ·have h2':48≤c.toNat:=by simp at h2;omega
   refine bb (fun h3=>?_) (fun h3=>?_)
   ·have h3':c.toNat≤57:=by simp at h3;omega
    have e:cb c=true:=by unfold cb;rw [decide_eq_true h2',decide_eq_true h3'];simp
    simp only [go_sem,e]
    simp (disch:=first|assumption|omega|(simp;done)|(simp;omega)|(simp only [bt,and_true];first|done|omega|(simp;done))) [↓zmi,beq,ybc,ybd,ybe,ag,wk,wk2,wk1,wkM,wkL,am,ybf,hcl]
   ·have h3':¬ c.toNat≤57:=by simp at h3;omega
    have e:cb c=(c==95):=by unfold cb;rw [decide_eq_false h3',h1];simp
    simp only [go_sem,e]
    simp (disch:=first|assumption|omega|(simp;done)|(simp;omega)|(simp only [bt,and_true];first|done|omega|(simp;done))) [↓zmi,beq,ybc,ybd,ybe,ag,wk,wk2,wk1,wkM,wkL,am,ybf,hcl]
  ·have h2':¬ 48≤c.toNat:=by simp at h2;omega
   have e:cb c=(c==95):=by unfold cb;rw [decide_eq_false h2',h1];simp
   simp only [go_sem,e]
   simp (disch:=first|assumption|omega|(simp;done)|(simp;omega)|(simp only [bt,and_true];first|done|omega|(simp;done))) [↓zmi,beq,ybc,ybd,ybe,ag,wk,wk2,wk1,wkM,wkL,am,ybf,hcl]
theorem iS {s:List UInt8} {k:Nat} (h:k<s.length):b8 (s.drop k)=if cb (s.getD k 0) then s.getD k 0::b8 (s.drop (k+1)) else []:=by
 have e:s.getD k 0=s[k]:=by simp [List.getD_eq_getElem?_getD,h]
 rw [e,List.drop_eq_getElem_cons h]
 unfold b8
 by_cases hp:cb s[k]=true
 ·rw [if_pos hp,List.takeWhile_cons_of_pos hp]
 ·rw [if_neg hp,List.takeWhile_cons_of_neg hp]
theorem pd {s:List UInt8} {k:Nat} (h:k<s.length) (hp:cb (s.getD k 0)=true) (hw:b8 s=s.take k++b8 (s.drop k)):b8 s=s.take (k+1)++b8 (s.drop (k+1)):=by
 have e:s.getD k 0=s[k]:=by simp [List.getD_eq_getElem?_getD,h]
 rw [iS h,if_pos hp,e] at hw
 rw [hw,List.take_succ_eq_append_getElem h,List.append_assoc];rfl
theorem lJ {s:List UInt8} {k:Nat} (h:k<s.length) (hp:cb (s.getD k 0)=false) (hw:b8 s=s.take k++b8 (s.drop k)):b8 s=s.take k:=by
 rw [iS h,if_neg (by rw [hp];decide),yaj] at hw
 exact hw
theorem ne {s:List UInt8} {k:Nat} (h:¬ k<s.length) (hw:b8 s=s.take k++b8 (s.drop k)):b8 s=s.take k:=by
 rw [ybf (by omega)] at hw
 simpa [b8] using hw
def pk:List AV→AHeap→(AV→Prop)→Prop
 |[.str s],_,K=>s.length≤140737488355328∧K (.str (b8 s))
 |_,_,_=>False
theorem wJ:EntOk Try.prog 32 (Ent.pure pk):=by
 refine EntOk.pure fun args H K h=>?_
 unfold pk at h
 split at h
 rotate_left
 ·exact h.elim
 rename_i s
 obtain ⟨hsl,hK⟩:=h
 refine ⟨_,hK,?_⟩
 clear hK
 refine ACalls.fW aI (TblOk.cons xt TblOk.nil) Try.func32 [.tmp 2] (Nat.le_refl _) (T:=aA []) (h:=fun hcl hlt=>?_)
 clear hlt
 simp only [go_sem]
 refine ax (A:=Nat) (fun k=>[(0,.str s),(3,.int .i64 (k:Int))]) (fun k=>H) (fun k=>k≤s.length∧b8 s=s.take k++b8 (s.drop k)) (fun k=>s.length - k) 0 ⟨by omega,by simp⟩ ?_ fun k hk=>?_
 ·(simp only [bkq,enterW,aR,ltF,ne_eq,Nat.reduceEqDiff,reduceCtorEq];try simp (disch:=first|assumption|omega|(simp;done)|(simp;omega)|(simp only [bt,and_true];first|done|omega|(simp;done))) [↓zmi,beq,ybc,ybd,ybe,ag,wk,wk2,wk1,wkM,wkL,am,ybf,byq,biq,ae,hcl];try (repeat' (first|assumption|omega|exact True.intro|refine And.intro ?_ ?_|refine af ?_|refine aa ?_|refine ac ?_ ?_|refine ah ?_ ?_|refine aj ?_|exact AHeap.Le.refl _|refine AHeap.Le.push ?_ _|refine AHeap.Le.del ?_ ?_|(simp only [bt,and_true,true_and];first|done|omega|(simp;done)))))
 obtain ⟨hk,hs⟩:=hk
 simp only [go_sem]
 refine bb (fun h1=>?_) (fun h1=>?_)
 ·have hk1:k<s.length:=by simp at h1;omega
  have e5:IntKind.i64.wrap ((k:Int)+1)=((k+1:Nat):Int):=by rw [wrap_i64]<;>omega
  simp only [go_sem,po,Int.toNat_natCast]
  refine ⟨by omega,s.getD k 0,rfl,?_⟩
  refine ak (fun h2=>?_) (fun h2=>?_)
  ·simp only [go_sem,e5]
   refine ⟨k+1,⟨by omega,pd hk1 h2 hs⟩,by omega,?_⟩
   (simp only [bkq,enterW,aR,ltF,ne_eq,Nat.reduceEqDiff,reduceCtorEq];try simp (disch:=first|assumption|omega|(simp;done)|(simp;omega)|(simp only [bt,and_true];first|done|omega|(simp;done))) [↓zmi,beq,ybc,ybd,ybe,ag,wk,wk2,wk1,wkM,wkL,am,ybf,byq,biq,ae,hcl];try (repeat' (first|assumption|omega|exact True.intro|refine And.intro ?_ ?_|refine af ?_|refine aa ?_|refine ac ?_ ?_|refine ah ?_ ?_|refine aj ?_|exact AHeap.Le.refl _|refine AHeap.Le.push ?_ _|refine AHeap.Le.del ?_ ?_|(simp only [bt,and_true,true_and];first|done|omega|(simp;done)))))
  ·have hw:=lJ hk1 h2 hs
   simp only [go_sem,Int.toNat_natCast,hw]
   refine ⟨by omega,?_⟩
   simp (disch:=first|assumption|omega|(simp;done)|(simp;omega)|(simp only [bt,and_true];first|done|omega|(simp;done))) [↓zmi,beq,ybc,ybd,ybe,ag,wk,wk2,wk1,wkM,wkL,am,ybf,hcl]
 ·have hk1:¬ k<s.length:=by simp at h1;omega
  have hw:=ne hk1 hs
  try simp only [go_sem,Int.toNat_natCast,hw,zau]
  refine ⟨by omega,?_⟩
  simp (disch:=first|assumption|omega|(simp;done)|(simp;omega)|(simp only [bt,and_true];first|done|omega|(simp;done))) [↓zmi,beq,ybc,ybd,ybe,ag,wk,wk2,wk1,wkM,wkL,am,ybf,hcl]
def l9:List AV→AHeap→(AV→Prop)→Prop
 |[.str s],_,K=>s.length≤140737488355328∧K (iK s)
 |_,_,_=>False
theorem kU {s:List UInt8} {k:Nat} {x:List UInt8} {kd:Nat} (h:k<s.length) (h3:gN (s.drop k)=some (kd,x)):x≠[]∧k+x.length≤s.length:=by
 obtain ⟨g1,g2,_⟩:=gI h3
 rw [List.length_drop] at g2
 exact ⟨g1,by omega⟩
theorem oU {s:List UInt8} {l:List Tok} (h:¬ 400<s.length) (e:rest s 0=(l,none)):bp s=(l,0,0):=by unfold bp;rw [if_neg h,e]
theorem gM {s:List UInt8} {l:List Tok} {k:Nat} (h:¬ 400<s.length) (e:rest s 0=(l,some k)):bp s=([],k,10):=by unfold bp;rw [if_neg h,e]
theorem oM {s:List UInt8} (h:b8 s=[]) (h2:fQ s=[]):gN s=none:=by unfold gN;rw [h,h2]
theorem qp {s y:List UInt8} (h:b8 s=[]) (h2:fQ s=y) (hy:y≠[]):gN s=some (3,y):=by
 unfold gN;rw [h,h2];cases y with
 |nil=>exact absurd rfl hy
 |cons a b=>rfl
theorem rQ {s w:List UInt8} {c:UInt8} (h:b8 s=c::w) (h2:ce c=true):gN s=some (2,c::w):=by unfold gN;rw [h];dsimp only;rw [if_pos h2]
theorem ro {s w:List UInt8} {c:UInt8} {n:Nat} (h:b8 s=c::w) (h2:ce c=false) (h3:lit (c::w)=some n):gN s=some (1,c::w):=by
 unfold gN;rw [h];dsimp only;rw [if_neg (by rw [h2];decide),h3];rfl
theorem mr {s w:List UInt8} {c:UInt8} (h:b8 s=c::w) (h2:ce c=false) (h3:lit (c::w)=none):gN s=none:=by
 unfold gN;rw [h];dsimp only;rw [if_neg (by rw [h2];decide),h3];rfl
theorem jx {s:List UInt8} {pre:List Tok} {k kd id:Nat} {x:List UInt8} {H Hd:AHeap} {fr:Fr} (hk:k<s.length) (hc:s[k]≠32) (ht:gN (s.drop k)=some (kd,x)) (hpl:pre.length≤k)
 (hr:rest s 0=(pre++(rest s k).1,(rest s k).2)) (hle:H.Le Hd) (hcd:Hd.Closed) (hid:H.nx≤id) (hg:Hd.get id=some (.buf 3 (pre.length+1)))
 (f0:Fr.get fr 0=.str s) (f5:Fr.get fr 5=.slice (.own id) 3 (bR (pre++[(kd,x,k)]))) (f6:Fr.get fr 6=.int .i64 ((k+x.length:Nat):Int)) :
 ∃ a':Nat × List Tok × Nat × AHeap,((a'.1≤s.length∧a'.2.1.length≤a'.1∧rest s 0=(a'.2.1++(rest s a'.1).1,(rest s a'.1).2))∧H.Le a'.2.2.2∧a'.2.2.2.Closed∧H.nx≤a'.2.2.1∧a'.2.2.2.get a'.2.2.1=some (.buf 3 a'.2.1.length)) ∧
  s.length - a'.1<s.length - k∧enterW H.nx fr Hd [(0,.str s),(5,.slice (.own a'.2.2.1) 3 (bR a'.2.1)),(6,.int .i64 (a'.1:Int))] a'.2.2.2:=by
 obtain ⟨hy1,hy2⟩:=kU hk ht
 have hyl:0<x.length:=List.length_pos_iff.2 hy1
 have hid2:id<Hd.nx:=AHeap.get_lt hg
 refine ⟨(k+x.length,pre++[(kd,x,k)],id,Hd),⟨⟨hy2,?_,?_⟩,hle,hcd,hid,?_⟩,?_,hle.nx,AHeap.Le.refl _,hcd,?_,?_⟩
 ·simp;omega
 ·rw [hr,xq hk hc ht,List.append_assoc];rfl
 ·rw [hg];simp
 ·dsimp only;omega
 ·simp only [ltF,znb,zmz,true_and,and_true]
  exact iW hid2
 ·simp [aR,wk2,wk1,wkM,f0,f5,f6]
theorem oH {s:List UInt8} {k:Nat} (h:k<s.length):eP (s.drop k) [32]=(s[k]==32):=by
 unfold eP
 rw [List.drop_eq_getElem_cons h]
 generalize s.drop (k+1)=r
 rw [Bool.eq_iff_iff,beq_iff_eq,beq_iff_eq]
 show [s[k]]=[32]↔_
 simp
set_option maxHeartbeats 2000000 in
theorem wC:EntOk Try.prog 9 (Ent.pure l9):=by
 refine EntOk.pure fun args H K h=>?_
 unfold l9 at h
 split at h
 rotate_left
 ·exact h.elim
 rename_i s
 obtain ⟨hsl,hK⟩:=h
 refine ⟨_,hK,?_⟩
 clear hK
 refine ACalls.fW aI (TblOk.cons kF (TblOk.cons rW (TblOk.cons wJ (TblOk.cons nd (TblOk.cons lG TblOk.nil))))) Try.func9 [.tmp 2,.tmp 3,.tmp 4] (Nat.le_refl _) (T:=aA []) (h:=fun hcl hlt=>?_)
 clear hlt
 simp only [go_sem,iK]
 refine ak (fun h1=>?_) (fun h1=>?_)
 ·have h1':400<s.length:=by simp at h1;omega
  have e:bp s=([],0,3):=by unfold bp;rw [if_pos h1']
  simp only [go_sem,e,cM]
  simp (disch:=first|assumption|omega|(simp;done)|(simp;omega)|(simp only [bt,and_true];first|done|omega|(simp;done))) [↓zmi,beq,ybc,ybd,ybe,ag,wk,wk2,wk1,wkM,wkL,am,ybf,hcl,eL]
 have h1':¬ 400<s.length:=by simp at h1;omega
 simp only [go_sem]
 refine ax (A:=Nat × List Tok × Nat × AHeap) (fun a=>[(0,.str s),(5,.slice (.own a.2.2.1) 3 (bR a.2.1)),(6,.int .i64 (a.1:Int))]) (fun a=>a.2.2.2)
  (fun a=>(a.1≤s.length∧a.2.1.length≤a.1∧rest s 0=(a.2.1++(rest s a.1).1,(rest s a.1).2))∧H.Le a.2.2.2∧a.2.2.2.Closed∧H.nx≤a.2.2.1∧a.2.2.2.get a.2.2.1=some (.buf 3 a.2.1.length))
  (fun a=>s.length - a.1) (0,[],H.nx+1,(H.push (.buf 3 0)).push (.buf 3 0)) ⟨⟨by omega,by simp,by simp⟩,?_,?_,by simp,?_⟩ ?_ fun a ha=>?_
 ·simp (disch:=first|assumption|omega|(simp;done)|(simp;omega)|(simp only [bt,and_true];first|done|omega|(simp;done))) [↓zmi,beq,ybc,ybd,ybe,ag,wk,wk2,wk1,wkM,wkL,am,ybf,hcl]
 ·(repeat' (first|assumption|omega|exact True.intro|refine And.intro ?_ ?_|refine af ?_|refine aa ?_|refine ac ?_ ?_|refine ah ?_ ?_|refine aj ?_|exact AHeap.Le.refl _|refine AHeap.Le.push ?_ _|refine AHeap.Le.del ?_ ?_|(simp only [bt,and_true,true_and];first|done|omega|(simp;done))))
 ·exact AHeap.get_push_new _ _
 ·(simp only [bkq,enterW,aR,ltF,ne_eq,Nat.reduceEqDiff,reduceCtorEq,cM];try simp (disch:=first|assumption|omega|(simp;done)|(simp;omega)|(simp only [bt,and_true];first|done|omega|(simp;done))) [↓zmi,beq,ybc,ybd,ybe,ag,wk,wk2,wk1,wkM,wkL,am,ybf,byq,biq,ae,hcl,cM];try (repeat' (first|assumption|omega|exact True.intro|refine And.intro ?_ ?_|refine af ?_|refine aa ?_|refine ac ?_ ?_|refine ah ?_ ?_|refine aj ?_|exact AHeap.Le.refl _|refine AHeap.Le.push ?_ _|refine AHeap.Le.del ?_ ?_|(simp only [bt,and_true,true_and,cM];first|done|omega|(simp;done)))))
 obtain ⟨k,pre,id,Hc⟩:=a
 obtain ⟨⟨hk,hpl,hr⟩,hle,hcc,hid,hst⟩:=ha
 dsimp only at hk hpl hr hle hcc hid hst ⊢
 have hnx:H.nx≤Hc.nx:=hle.nx
 have hid2:id<Hc.nx:=AHeap.get_lt hst
 simp only [go_sem]
 refine ak (fun h2=>?_) (fun h2=>?_)
 ·have hk1:k<s.length:=by simp at h2;omega
  have e5:IntKind.i64.wrap ((k:Int)+1)=((k+1:Nat):Int):=by rw [wrap_i64]<;>omega
  simp only [go_sem,gd,Int.toNat_natCast,List.take_length]
  refine ⟨by omega,ak (fun h3=>?_) (fun h3=>?_)⟩
  ·have hc:s[k]=32:=by rw [oH hk1] at h3;simpa using h3
   rw [mq hk1 hc] at hr
   simp only [go_sem,e5]
   refine ⟨(k+1,pre,id,Hc),⟨⟨by dsimp only;omega,by dsimp only;omega,hr⟩,hle,hcc,hid,hst⟩,by dsimp only;omega,?_⟩
   (simp only [bkq,enterW,aR,ltF,ne_eq,Nat.reduceEqDiff,reduceCtorEq,hcc,hnx,hid2];try simp (disch:=first|assumption|omega|(simp;done)|(simp;omega)|(simp only [bt,and_true];first|done|omega|(simp;done))) [↓zmi,beq,ybc,ybd,ybe,ag,wk,wk2,wk1,wkM,wkL,am,ybf,byq,biq,ae,hcl,hcc,hnx,hid2];try (repeat' (first|assumption|omega|exact True.intro|refine And.intro ?_ ?_|refine af ?_|refine aa ?_|refine ac ?_ ?_|refine ah ?_ ?_|refine aj ?_|exact AHeap.Le.refl _|refine AHeap.Le.push ?_ _|refine AHeap.Le.del ?_ ?_|(simp only [bt,and_true,true_and,hcc,hnx,hid2];first|done|omega|(simp;done)))))
   exact iW hid2
  have n1:(id=Hc.nx)=False:=eq_false (by omega)
  have n2:(id=Hc.nx+1)=False:=eq_false (by omega)
  have n3:(id=Hc.nx+1+1)=False:=eq_false (by omega)
  have hc:s[k]≠32:=by rw [oH hk1] at h3;simpa using h3
  have hsd:(s.drop k).length≤400:=by rw [List.length_drop];omega
  simp only [go_sem,lv,pk]
  refine ⟨by omega,?_⟩
  cases hw:b8 (s.drop k) with
  |nil =>
   have en:(([]:List UInt8) != [])=false:=rfl
   rcases Classical.em (fQ (s.drop k)=[]) with hy|hy
   ·have htk:=oM hw hy
    rw [iY hk1 hc htk,yaj] at hr
    have hsc:=gM h1' hr
    have eb:(([]:List UInt8)==[])=true:=rfl
    simp only [go_sem,hsc,hy,en,eb,zau,zat,cM]
    simp (disch:=first|assumption|omega|(simp;done)|(simp;omega)|(simp only [bt,and_true];first|done|omega|(simp;done))) [↓zmi,beq,ybc,ybd,ybe,ag,wk,wk2,wk1,wkM,wkL,am,ybf,hcc,hle,hcl]
    exact (hle.push _).push _
   ·have htk:=qp hw rfl hy
    have eb:(fQ (s.drop k)==[])=false:=by simpa using hy
    have eb0:(([]:List UInt8)==[])=true:=rfl
    obtain ⟨hy1,hy2⟩:=kU hk1 htk
    generalize fQ (s.drop k)=y at *
    have e6:IntKind.i64.wrap ((k:Int)+(y.length:Int))=((k+y.length:Nat):Int):=by rw [wrap_i64]<;>omega
    simp only [go_sem,en,eb,eb0,zau,zat,n1,n2,hst,aB,vI,e6,lD]
    refine ⟨by omega,jx hk1 hc htk hpl hr (((cm hle hid).push _).push _) ?_ hid ?_ rfl rfl rfl⟩
    ·exact af (ac (aa hcc) (by simp [zno,znp,zmz,znb]))
    ·rw [AHeap.get_push_lt _ _ (by simp [AHeap.push,AHeap.set];omega),AHeap.get_push_lt _ _ (by simp [AHeap.set];omega),AHeap.get_set_same _ _ hid2]
  |cons c w =>
   have en:((c::w) != [])=true:=rfl
   have eb:((c::w)==[])=false:=rfl
   simp only [go_sem,en,eb,zat,jn]
   refine ⟨by omega,c,rfl,?_⟩
   cases hlc:ce c with
   |true =>
    have htk:=rQ hw hlc
    obtain ⟨_,hy2⟩:=kU hk1 htk
    have e6:IntKind.i64.wrap ((k:Int)+((w.length+1:Nat):Int))=((k+(c::w).length:Nat):Int):=by
     rw [yaz] at hy2 ⊢
     rw [wrap_i64]<;>omega
    simp only [go_sem,en,eb,zau,zat,n1,n2,hst,aB,xm,e6,lD]
    refine ⟨by omega,jx hk1 hc htk hpl hr (((cm hle hid).push _).push _) ?_ hid ?_ rfl rfl rfl⟩
    ·exact af (ac (aa hcc) (by simp [zno,znp,zmz,znb]))
    ·rw [AHeap.get_push_lt _ _ (by simp [AHeap.push,AHeap.set];omega),AHeap.get_push_lt _ _ (by simp [AHeap.set];omega),AHeap.get_set_same _ _ hid2]
   |false =>
    have hcw:(c::w).length≤400:=by rw [← hw];exact Nat.le_trans (List.takeWhile_sublist _).length_le hsd
    simp only [go_sem,en,eb,zau,zat,iq]
    cases hli:lit (c::w) with
    |none =>
     have htk:=mr hw hlc hli
     rw [iY hk1 hc htk,yaj] at hr
     have hsc:=gM h1' hr
     simp only [go_sem,hsc,lX,nAV,zau,zat,cM]
     refine ⟨by simp only [yaz] at hcw;omega,?_⟩
     simp (disch:=first|assumption|omega|(simp;done)|(simp;omega)|(simp only [bt,and_true];first|done|omega|(simp;done))) [↓zmi,beq,ybc,ybd,ybe,ag,wk,wk2,wk1,wkM,wkL,am,ybf,hcc,hle,hcl]
     exact ((hle.push _).push _).push _
    |some n =>
     have htk:=ro hw hlc hli
     obtain ⟨_,hy2⟩:=kU hk1 htk
     have e6:IntKind.i64.wrap ((k:Int)+((w.length+1:Nat):Int))=((k+(c::w).length:Nat):Int):=by
      rw [yaz] at hy2 ⊢
      rw [wrap_i64]<;>omega
     simp only [go_sem,lX,nAV,zau,zat,n1,n2,n3,eb,hst,aB,xM,e6,lD]
     refine ⟨by simp only [yaz] at hcw;omega,by omega,jx hk1 hc htk hpl hr ((((cm hle hid).push _).push _).push _) ?_ hid ?_ rfl rfl rfl⟩
     ·exact af (ac (ac (aa hcc) (by simp [zno,znp,zmz,znb])) (by simp [zno,znp,zmz,znb]))
     ·rw [AHeap.get_push_lt _ _ (by simp [AHeap.push,AHeap.set];omega),AHeap.get_push_lt _ _ (by simp [AHeap.push,AHeap.set];omega),AHeap.get_push_lt _ _ (by simp [AHeap.set];omega),AHeap.get_set_same _ _ hid2]
 ·have hk1:s.length≤k:=by simp at h2;omega
  rw [rn hk1,yaj] at hr
  have hsc:=oU h1' hr
  simp only [go_sem,hsc]
  simp (disch:=first|assumption|omega|(simp;done)|(simp;omega)|(simp only [bt,and_true];first|done|omega|(simp;done))) [↓zmi,beq,ybc,ybd,ybe,ag,wk,wk2,wk1,wkM,wkL,am,ybf,hcc,hle,tD,hcl]
end Go.AL
