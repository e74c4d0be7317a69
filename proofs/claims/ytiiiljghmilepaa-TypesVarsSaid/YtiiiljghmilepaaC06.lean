/- Contracts and plain laws, a part of the proof; no condition of its own. -/
import Derived.Test.YtiiiljghmilepaaLLex
import Derived.Test.YtiiiljghmilepaaR05d
open List renaming length_cons → yaz, length_nil → yba, take_of_length_le → ybc, drop_append → ybd, take_append → ybe, drop_eq_nil_of_le → ybf, append_nil → yaj
open Go Go.AL Go.Proofs
namespace Go.AL
set_option linter.all false
set_option maxRecDepth 10000
theorem wz:ti Try.prog 97=some ⟨.struct [(0,3,false),(1,9,false),(2,3,false)],3,32,.agg [.int .i64 0,.str [],.int .i64 0]⟩:=by kernel_rfl
theorem wO:ti Try.prog 104=some ⟨.struct [(0,3,false),(1,9,false),(2,3,false)],3,32,.agg [.int .i64 0,.str [],.int .i64 0]⟩:=by kernel_rfl
theorem uz:ti Try.prog 26=some ⟨.slice 97,1,24,.slice .nil 1 []⟩:=by kernel_rfl
theorem v6:ti Try.prog 30=some ⟨.slice 104,1,24,.slice .nil 1 []⟩:=by kernel_rfl
theorem vj:ti Try.prog 27=some ⟨.int .i64,1,8,.int .i64 0⟩:=by kernel_rfl
attribute [go_sem] wz wO uz v6 vj
theorem rD {t:Bool} {A B:Prop} (e:t=false) (h:B):gW t A B:=bR (fun h=>by simp [e] at h) (fun _=>h)
theorem oE {P:Program} {Ω:Tbl} {K:Conts} {t:Bool} {a b:Code} {fr:Fr} {H:AHeap} (e:t=false) (h:aw P Ω b K fr H):jN P Ω (.bool t) a b K fr H:=al (fun h=>by simp [e] at h) (fun _=>h)
/-- a row of texts -/
def sAV (l:List (List UInt8)):List AV:=l.map .str
theorem gL {l:List (List UInt8)}:(sAV l).length=l.length:=by simp [sAV]
theorem rC {l:List (List UInt8)} {i:Nat} (h:i<l.length):(sAV l).getD i .junk=.str (l.getD i []):=by simp [sAV,List.getD_eq_getElem?_getD,h]
theorem eQ {n sz:Nat} {l:List AV} (h:∀ x∈l,AV.lt n x):AV.lt n (.slice .any sz l):=by
 rw [AV.lt]
 exact ⟨fun id e=>(by cases e),fun j hj=>h _ (List.getElem_mem hj)⟩
theorem eB {n:Nat} {l:List (List UInt8)}:AV.lt n (.slice .any 1 (sAV l)):=eQ fun x hx=>by
 obtain ⟨s,_,rfl⟩:=List.mem_map.1 hx
 simp only [znb]
theorem yj:[AV.str [38,38],.str [124,124],.str [45,62],.str [61,61],.str [33,61],.str [60,61],.str [62,61],.str [58,58],.str [40],.str [41],.str [33],.str [60],.str [62],.str [43],.str [45]]=sAV syms:=rfl
theorem g7:syms.length=15:=rfl
/-- tokens in memory -/
def oQ (t:Tok):AV:=.agg [.int .i64 (t.1:Int),.str t.2.1,.int .i64 (t.2.2:Int)]
def cj (l:List Tok):List AV:=l.map oQ
theorem aO {l:List Tok}:(cj l).length=l.length:=by simp [cj]
theorem xG {l:List Tok} {x:List UInt8} {k:Nat}:cj l++[.agg [.int .i64 1,.str x,.int .i64 (k:Int)]]=cj (l++[(1,x,k)]):=by simp [cj,oQ]
theorem xN {l:List Tok} {x:List UInt8} {k:Nat}:cj l++[.agg [.int .i64 2,.str x,.int .i64 (k:Int)]]=cj (l++[(2,x,k)]):=by simp [cj,oQ]
theorem yh {l:List Tok} {x:List UInt8} {k:Nat}:cj l++[.agg [.int .i64 3,.str x,.int .i64 (k:Int)]]=cj (l++[(3,x,k)]):=by simp [cj,oQ]
theorem qZ {k1 k2:IntKind} {a c:Int} {b:List UInt8}:(∀ z,z∈[AV.agg [.int k1 a,.str b,.int k2 c]]→aJ z.cells=true)=True:=eq_true fun z hz=>by
 rw [List.mem_singleton.1 hz]
 simp [zik,zgl,zgm,zgn,zgp]
theorem bB {H Hc:AHeap} {i:Nat} {o:AObj} (h:H.Le Hc) (hi:H.nx≤i):H.Le (Hc.set i o):=⟨h.nx,fun j x hj=>by
 have:=AHeap.get_lt hj
 rw [AHeap.get_set_ne _ _ (by omega)]
 exact h.get j x hj⟩
theorem ga:cj []=[]:=rfl
theorem wy {n:Nat} {l:List Tok}:AV.lt n (.slice .any 3 (cj l)):=eQ fun x hx=>by
 obtain ⟨s,_,rfl⟩:=List.mem_map.1 hx
 simp only [oQ,znl,zno,znp,zmz,znb,and_true]
theorem uy {n:Nat} {l:List Tok}:ltL n (cj l):=ltL_iff.2 fun j hj=>by
 simp only [cj,List.getElem_map,oQ,znl,zno,znp,zmz,znb,and_true]
theorem kR {n id:Nat} {l:List Tok} (h:id<n):AV.lt n (.slice (.own id) 3 (cj l)):=by
 rw [bm]
 exact ⟨fun i e=>by cases e;exact h,uy⟩
def nP (s:List UInt8):AV:=.tup [.slice .any 3 (cj (bz s).1),.int .i64 ((bz s).2.1:Int),.int .i64 ((bz s).2.2:Int)]
def fJ:List AV→AHeap→(AV→Prop)→Prop
 |[.str s,.str p],_,K=>K (.bool (iv s p))
 |_,_,_=>False
theorem jR:EntOk Try.prog 30 (Ent.pure fJ):=by
 refine EntOk.pure fun args H K h=>?_
 unfold fJ at h
 split at h
 rotate_left
 ·exact h.elim
 rename_i s p
 refine ⟨_,h,?_⟩
 clear h
 refine ACalls.fW aE (TblOk.cons iY TblOk.nil) Try.func30 [.tmp 4] (Nat.le_refl _) (T:=ax []) (h:=fun hcl hlt=>?_)
 clear hlt
 simp only [go_sem,eY]
 simp (disch:=first|assumption|omega|(simp;done)|(simp;omega)|(simp only [bt,and_true];first|done|omega|(simp;done))) [↓zmi,beq,ybc,ybd,ybe,ag,wk,wk2,wk1,wkM,wkL,ak,ybf,hcl]
def jq:List AV→AHeap→(AV→Prop)→Prop
 |[],_,K=>K (.slice .any 1 (sAV syms))
 |_,_,_=>False
theorem pr:EntOk Try.prog 55 (Ent.pure jq):=by
 refine EntOk.pure fun args H K h=>?_
 unfold jq at h
 split at h
 rotate_left
 ·exact h.elim
 refine ⟨_,h,?_⟩
 clear h
 refine ACalls.fW aE TblOk.nil Try.func55 [.tmp 0] (Nat.le_refl _) (T:=ax []) (h:=fun hcl hlt=>?_)
 clear hlt
 simp only [go_sem,yj]
 simp (disch:=first|assumption|omega|(simp;done)|(simp;omega)|(simp only [bt,and_true];first|done|omega|(simp;done))) [↓zmi,beq,ybc,ybd,ybe,ag,wk,wk2,wk1,wkM,wkL,ak,ybf,hcl,eB]
theorem tx {x:List UInt8} {l:List (List UInt8)} {s:List UInt8}:mv (x::l) s=if iv s x then x else mv l s:=by rw [mv]
def kl:List AV→AHeap→(AV→Prop)→Prop
 |[.str s],_,K=>K (.str (jQ s))
 |_,_,_=>False
theorem qL:EntOk Try.prog 31 (Ent.pure kl):=by
 refine EntOk.pure fun args H K h=>?_
 unfold kl at h
 split at h
 rotate_left
 ·exact h.elim
 rename_i s
 refine ⟨_,h,?_⟩
 clear h
 refine ACalls.fW aE (TblOk.cons pr (TblOk.cons jR TblOk.nil)) Try.func31 [.tmp 2] (Nat.le_refl _) (T:=ax []) (h:=fun hcl hlt=>?_)
 clear hlt
 simp only [go_sem,jq,gL]
 refine az (A:=Nat) (fun k=>[(0,.str s),(5,.slice .any 1 (sAV syms)),(6,.int .i64 15),(7,.int .i64 (k:Int))]) (fun k=>H) (fun k=>k≤15∧jQ s=mv (syms.drop k) s) (fun k=>15 - k) 0 ⟨by omega,rfl⟩ ?_ fun k hk=>?_
 ·(simp only [bkq,enterW,bd,ltF,ne_eq,Nat.reduceEqDiff,reduceCtorEq,eB,g7];try simp (disch:=first|assumption|omega|(simp;done)|(simp;omega)|(simp only [bt,and_true];first|done|omega|(simp;done))) [↓zmi,beq,ybc,ybd,ybe,ag,wk,wk2,wk1,wkM,wkL,ak,ybf,byq,biq,aj,hcl,eB,g7];try (repeat' (first|assumption|omega|exact True.intro|refine And.intro ?_ ?_|refine af ?_|refine aa ?_|refine ae ?_ ?_|refine ah ?_ ?_|refine ai ?_|exact AHeap.Le.refl _|refine AHeap.Le.push ?_ _|refine AHeap.Le.del ?_ ?_|(simp only [bt,and_true,true_and,eB,g7];first|done|omega|(simp;done)))))
 obtain ⟨hk,hs⟩:=hk
 simp only [go_sem]
 refine al (fun h1=>?_) (fun h1=>?_)
 ·have hk2:k<15:=by simp at h1;omega
  have hk1:k<syms.length:=by rw [g7];exact hk2
  have hg:(sAV syms).getD k .junk=.str (syms.getD k []):=rC hk1
  have e5:IntKind.i64.wrap ((k:Int)+1)=((k+1:Nat):Int):=by rw [wrap_i64]<;>omega
  have hgk:syms.getD k []=syms[k]:=by simp [List.getD_eq_getElem?_getD,hk1]
  rw [List.drop_eq_getElem_cons hk1,tx] at hs
  rw [hgk] at hg
  generalize syms[k]=x at *
  simp only [go_sem,Int.toNat_natCast,gL,g7,hg,fJ,e5]
  refine ⟨by omega,al (fun h2=>?_) (fun h2=>?_)⟩
  ·rw [if_pos h2] at hs
   simp only [go_sem,hs]
   simp (disch:=first|assumption|omega|(simp;done)|(simp;omega)|(simp only [bt,and_true];first|done|omega|(simp;done))) [↓zmi,beq,ybc,ybd,ybe,ag,wk,wk2,wk1,wkM,wkL,ak,ybf,hcl]
  ·rw [if_neg (by simp [h2])] at hs
   simp only [go_sem,e5]
   refine ⟨k+1,⟨by omega,hs⟩,by omega,?_⟩
   (simp only [bkq,enterW,bd,ltF,ne_eq,Nat.reduceEqDiff,reduceCtorEq,eB];try simp (disch:=first|assumption|omega|(simp;done)|(simp;omega)|(simp only [bt,and_true];first|done|omega|(simp;done))) [↓zmi,beq,ybc,ybd,ybe,ag,wk,wk2,wk1,wkM,wkL,ak,ybf,byq,biq,aj,hcl,eB];try (repeat' (first|assumption|omega|exact True.intro|refine And.intro ?_ ?_|refine af ?_|refine aa ?_|refine ae ?_ ?_|refine ah ?_ ?_|refine ai ?_|exact AHeap.Le.refl _|refine AHeap.Le.push ?_ _|refine AHeap.Le.del ?_ ?_|(simp only [bt,and_true,true_and,eB];first|done|omega|(simp;done)))))
 ·have hk1:k=15:=by simp at h1;omega
  subst hk1
  have h0:jQ s=[]:=by rw [hs];rfl
  simp only [go_sem,h0]
  simp (disch:=first|assumption|omega|(simp;done)|(simp;omega)|(simp only [bt,and_true];first|done|omega|(simp;done))) [↓zmi,beq,ybc,ybd,ybe,ag,wk,wk2,wk1,wkM,wkL,ak,ybf,hcl]
def iO:List AV→AHeap→(AV→Prop)→Prop
 |[x],_,K=>∃ c,x=bc c∧K (.bool (dh c))
 |_,_,_=>False
theorem lN:EntOk Try.prog 33 (Ent.pure iO):=by
 refine EntOk.pure fun args H K h=>?_
 unfold iO at h
 split at h
 rotate_left
 ·exact h.elim
 obtain ⟨c,rfl,hK⟩:=h
 refine ⟨_,hK,?_⟩
 clear hK
 refine ACalls.fW aE TblOk.nil Try.func33 [.tmp 2] (Nat.le_refl _) (T:=ax []) (h:=fun hcl hlt=>?_)
 clear hlt
 simp only [go_sem,bc]
 refine bR (fun h1=>?_) (fun h1=>?_)
 ·have e:dh c=decide ((c.toNat:Int)≤122):=by unfold dh;rw [Bool.eq_iff_iff];simp at h1 ⊢;omega
  simp only [go_sem,e]
  simp (disch:=first|assumption|omega|(simp;done)|(simp;omega)|(simp only [bt,and_true];first|done|omega|(simp;done))) [↓zmi,beq,ybc,ybd,ybe,ag,wk,wk2,wk1,wkM,wkL,ak,ybf,hcl]
 ·have e:dh c=false:=by unfold dh;rw [Bool.eq_iff_iff];simp at h1 ⊢;omega
  simp only [go_sem,e]
  simp (disch:=first|assumption|omega|(simp;done)|(simp;omega)|(simp only [bt,and_true];first|done|omega|(simp;done))) [↓zmi,beq,ybc,ybd,ybe,ag,wk,wk2,wk1,wkM,wkL,ak,ybf,hcl]
def oO:List AV→AHeap→(AV→Prop)→Prop
 |[x],_,K=>∃ c,x=bc c∧K (.bool (ea c))
 |_,_,_=>False
theorem vO:EntOk Try.prog 56 (Ent.pure oO):=by
 refine EntOk.pure fun args H K h=>?_
 unfold oO at h
 split at h
 rotate_left
 ·exact h.elim
 obtain ⟨c,rfl,hK⟩:=h
 refine ⟨_,hK,?_⟩
 clear hK
 refine ACalls.fW aE (TblOk.cons lN TblOk.nil) Try.func56 [.tmp 2] (Nat.le_refl _) (T:=ax []) (h:=fun hcl hlt=>?_)
 clear hlt
 simp only [go_sem,iO]
 refine ⟨c,rfl,?_⟩
 simp only [go_sem,bc]
 have e95:(((c.toNat:Nat):Int)==95)=(c==95):=by rw [Bool.eq_iff_iff];simp [← UInt8.toNat_inj];omega
 rw [e95]
 refine bR (fun h1=>?_) (fun h1=>?_)
 ·have e:ea c=true:=by unfold ea;rw [h1];rfl
  simp only [go_sem,e]
  simp (disch:=first|assumption|omega|(simp;done)|(simp;omega)|(simp only [bt,and_true];first|done|omega|(simp;done))) [↓zmi,beq,ybc,ybd,ybe,ag,wk,wk2,wk1,wkM,wkL,ak,ybf,hcl]
 ·refine bR (fun h2=>?_) (fun h2=>?_)
  ·have h2':48≤c.toNat:=by simp at h2;omega
   refine bR (fun h3=>?_) (fun h3=>?_)
   ·have h3':c.toNat≤57:=by simp at h3;omega
    have e:ea c=true:=by unfold ea;rw [decide_eq_true h2',decide_eq_true h3'];simp
    simp only [go_sem,e]
    simp (disch:=first|assumption|omega|(simp;done)|(simp;omega)|(simp only [bt,and_true];first|done|omega|(simp;done))) [↓zmi,beq,ybc,ybd,ybe,ag,wk,wk2,wk1,wkM,wkL,ak,ybf,hcl]
   ·have h3':¬ c.toNat≤57:=by simp at h3;omega
    have e:ea c=(c==95):=by unfold ea;rw [decide_eq_false h3',h1];simp
    simp only [go_sem,e]
    simp (disch:=first|assumption|omega|(simp;done)|(simp;omega)|(simp only [bt,and_true];first|done|omega|(simp;done))) [↓zmi,beq,ybc,ybd,ybe,ag,wk,wk2,wk1,wkM,wkL,ak,ybf,hcl]
  ·have h2':¬ 48≤c.toNat:=by simp at h2;omega
   have e:ea c=(c==95):=by unfold ea;rw [decide_eq_false h2',h1];simp
   simp only [go_sem,e]
   simp (disch:=first|assumption|omega|(simp;done)|(simp;omega)|(simp only [bt,and_true];first|done|omega|(simp;done))) [↓zmi,beq,ybc,ybd,ybe,ag,wk,wk2,wk1,wkM,wkL,ak,ybf,hcl]
theorem kU {s:List UInt8} {k:Nat} (h:k<s.length):b8 (s.drop k)=if ea (s.getD k 0) then s.getD k 0::b8 (s.drop (k+1)) else []:=by
 have e:s.getD k 0=s[k]:=by simp [List.getD_eq_getElem?_getD,h]
 rw [e,List.drop_eq_getElem_cons h]
 unfold b8
 by_cases hp:ea s[k]=true
 ·rw [if_pos hp,List.takeWhile_cons_of_pos hp]
 ·rw [if_neg hp,List.takeWhile_cons_of_neg hp]
theorem sU {s:List UInt8} {k:Nat} (h:k<s.length) (hp:ea (s.getD k 0)=true) (hw:b8 s=s.take k++b8 (s.drop k)):b8 s=s.take (k+1)++b8 (s.drop (k+1)):=by
 have e:s.getD k 0=s[k]:=by simp [List.getD_eq_getElem?_getD,h]
 rw [kU h,if_pos hp,e] at hw
 rw [hw,List.take_succ_eq_append_getElem h,List.append_assoc];rfl
theorem pf {s:List UInt8} {k:Nat} (h:k<s.length) (hp:ea (s.getD k 0)=false) (hw:b8 s=s.take k++b8 (s.drop k)):b8 s=s.take k:=by
 rw [kU h,if_neg (by rw [hp];decide),yaj] at hw
 exact hw
theorem qE {s:List UInt8} {k:Nat} (h:¬ k<s.length) (hw:b8 s=s.take k++b8 (s.drop k)):b8 s=s.take k:=by
 rw [ybf (by omega)] at hw
 simpa [b8] using hw
def oo:List AV→AHeap→(AV→Prop)→Prop
 |[.str s],_,K=>s.length≤140737488355328∧K (.str (b8 s))
 |_,_,_=>False
theorem uN:EntOk Try.prog 32 (Ent.pure oo):=by
 refine EntOk.pure fun args H K h=>?_
 unfold oo at h
 split at h
 rotate_left
 ·exact h.elim
 rename_i s
 obtain ⟨hsl,hK⟩:=h
 refine ⟨_,hK,?_⟩
 clear hK
 refine ACalls.fW aE (TblOk.cons vO TblOk.nil) Try.func32 [.tmp 2] (Nat.le_refl _) (T:=ax []) (h:=fun hcl hlt=>?_)
 clear hlt
 simp only [go_sem]
 refine az (A:=Nat) (fun k=>[(0,.str s),(3,.int .i64 (k:Int))]) (fun k=>H) (fun k=>k≤s.length∧b8 s=s.take k++b8 (s.drop k)) (fun k=>s.length - k) 0 ⟨by omega,by simp⟩ ?_ fun k hk=>?_
 ·(simp only [bkq,enterW,bd,ltF,ne_eq,Nat.reduceEqDiff,reduceCtorEq];try simp (disch:=first|assumption|omega|(simp;done)|(simp;omega)|(simp only [bt,and_true];first|done|omega|(simp;done))) [↓zmi,beq,ybc,ybd,ybe,ag,wk,wk2,wk1,wkM,wkL,ak,ybf,byq,biq,aj,hcl];try (repeat' (first|assumption|omega|exact True.intro|refine And.intro ?_ ?_|refine af ?_|refine aa ?_|refine ae ?_ ?_|refine ah ?_ ?_|refine ai ?_|exact AHeap.Le.refl _|refine AHeap.Le.push ?_ _|refine AHeap.Le.del ?_ ?_|(simp only [bt,and_true,true_and];first|done|omega|(simp;done)))))
 obtain ⟨hk,hs⟩:=hk
 simp only [go_sem]
 refine bR (fun h1=>?_) (fun h1=>?_)
 ·have hk1:k<s.length:=by simp at h1;omega
  have e5:IntKind.i64.wrap ((k:Int)+1)=((k+1:Nat):Int):=by rw [wrap_i64]<;>omega
  simp only [go_sem,oO,Int.toNat_natCast]
  refine ⟨by omega,s.getD k 0,rfl,?_⟩
  refine al (fun h2=>?_) (fun h2=>?_)
  ·simp only [go_sem,e5]
   refine ⟨k+1,⟨by omega,sU hk1 h2 hs⟩,by omega,?_⟩
   (simp only [bkq,enterW,bd,ltF,ne_eq,Nat.reduceEqDiff,reduceCtorEq];try simp (disch:=first|assumption|omega|(simp;done)|(simp;omega)|(simp only [bt,and_true];first|done|omega|(simp;done))) [↓zmi,beq,ybc,ybd,ybe,ag,wk,wk2,wk1,wkM,wkL,ak,ybf,byq,biq,aj,hcl];try (repeat' (first|assumption|omega|exact True.intro|refine And.intro ?_ ?_|refine af ?_|refine aa ?_|refine ae ?_ ?_|refine ah ?_ ?_|refine ai ?_|exact AHeap.Le.refl _|refine AHeap.Le.push ?_ _|refine AHeap.Le.del ?_ ?_|(simp only [bt,and_true,true_and];first|done|omega|(simp;done)))))
  ·have hw:=pf hk1 h2 hs
   simp only [go_sem,Int.toNat_natCast,hw]
   refine ⟨by omega,?_⟩
   simp (disch:=first|assumption|omega|(simp;done)|(simp;omega)|(simp only [bt,and_true];first|done|omega|(simp;done))) [↓zmi,beq,ybc,ybd,ybe,ag,wk,wk2,wk1,wkM,wkL,ak,ybf,hcl]
 ·have hk1:¬ k<s.length:=by simp at h1;omega
  have hw:=qE hk1 hs
  try simp only [go_sem,Int.toNat_natCast,hw,zau]
  refine ⟨by omega,?_⟩
  simp (disch:=first|assumption|omega|(simp;done)|(simp;omega)|(simp only [bt,and_true];first|done|omega|(simp;done))) [↓zmi,beq,ybc,ybd,ybe,ag,wk,wk2,wk1,wkM,wkL,ak,ybf,hcl]
def lk:List AV→AHeap→(AV→Prop)→Prop
 |[.str s],_,K=>s.length≤140737488355328∧K (nP s)
 |_,_,_=>False
theorem li {s:List UInt8} {k:Nat} {x:List UInt8} {kd:Nat} (h:k<s.length) (h3:gI (s.drop k)=some (kd,x)):x≠[]∧k+x.length≤s.length:=by
 obtain ⟨g1,g2,_⟩:=iJ h3
 rw [List.length_drop] at g2
 exact ⟨g1,by omega⟩
theorem sB {s:List UInt8} {l:List Tok} (h:¬ 400<s.length) (e:rest s 0=(l,none)):bz s=(l,0,0):=by unfold bz;rw [if_neg h,e]
theorem ng {s:List UInt8} {l:List Tok} {k:Nat} (h:¬ 400<s.length) (e:rest s 0=(l,some k)):bz s=([],k,10):=by unfold bz;rw [if_neg h,e]
theorem s7 {s:List UInt8} (h:b8 s=[]) (h2:jQ s=[]):gI s=none:=by unfold gI;rw [h,h2]
theorem vf {s y:List UInt8} (h:b8 s=[]) (h2:jQ s=y) (hy:y≠[]):gI s=some (3,y):=by
 unfold gI;rw [h,h2];cases y with
 |nil=>exact absurd rfl hy
 |cons a b=>rfl
theorem vX {s w:List UInt8} {c:UInt8} (h:b8 s=c::w) (h2:dh c=true):gI s=some (2,c::w):=by unfold gI;rw [h];dsimp only;rw [if_pos h2]
theorem tR {s w:List UInt8} {c:UInt8} {n:Nat} (h:b8 s=c::w) (h2:dh c=false) (h3:lit (c::w)=some n):gI s=some (1,c::w):=by
 unfold gI;rw [h];dsimp only;rw [if_neg (by rw [h2];decide),h3];rfl
theorem uF {s w:List UInt8} {c:UInt8} (h:b8 s=c::w) (h2:dh c=false) (h3:lit (c::w)=none):gI s=none:=by
 unfold gI;rw [h];dsimp only;rw [if_neg (by rw [h2];decide),h3];rfl
theorem n5 {s:List UInt8} {pre:List Tok} {k kd id:Nat} {x:List UInt8} {H Hd:AHeap} {fr:Fr} (hk:k<s.length) (hc:s[k]≠32) (ht:gI (s.drop k)=some (kd,x)) (hpl:pre.length≤k)
 (hr:rest s 0=(pre++(rest s k).1,(rest s k).2)) (hle:H.Le Hd) (hcd:Hd.Closed) (hid:H.nx≤id) (hg:Hd.get id=some (.buf 3 (pre.length+1)))
 (f0:Fr.get fr 0=.str s) (f5:Fr.get fr 5=.slice (.own id) 3 (cj (pre++[(kd,x,k)]))) (f6:Fr.get fr 6=.int .i64 ((k+x.length:Nat):Int)) :
 ∃ a':Nat × List Tok × Nat × AHeap,((a'.1≤s.length∧a'.2.1.length≤a'.1∧rest s 0=(a'.2.1++(rest s a'.1).1,(rest s a'.1).2))∧H.Le a'.2.2.2∧a'.2.2.2.Closed∧H.nx≤a'.2.2.1∧a'.2.2.2.get a'.2.2.1=some (.buf 3 a'.2.1.length)) ∧
  s.length - a'.1<s.length - k∧enterW H.nx fr Hd [(0,.str s),(5,.slice (.own a'.2.2.1) 3 (cj a'.2.1)),(6,.int .i64 (a'.1:Int))] a'.2.2.2:=by
 obtain ⟨hy1,hy2⟩:=li hk ht
 have hyl:0<x.length:=List.length_pos_iff.2 hy1
 have hid2:id<Hd.nx:=AHeap.get_lt hg
 refine ⟨(k+x.length,pre++[(kd,x,k)],id,Hd),⟨⟨hy2,?_,?_⟩,hle,hcd,hid,?_⟩,?_,hle.nx,AHeap.Le.refl _,hcd,?_,?_⟩
 ·simp;omega
 ·rw [hr,ub hk hc ht,List.append_assoc];rfl
 ·rw [hg];simp
 ·dsimp only;omega
 ·simp only [ltF,znb,zmz,true_and,and_true]
  exact kR hid2
 ·simp [bd,wk2,wk1,wkM,f0,f5,f6]
theorem nu {s:List UInt8} {k:Nat} (h:k<s.length):iv (s.drop k) [32]=(s[k]==32):=by
 unfold iv
 rw [List.drop_eq_getElem_cons h]
 generalize s.drop (k+1)=r
 rw [Bool.eq_iff_iff,beq_iff_eq,beq_iff_eq]
 show [s[k]]=[32]↔_
 simp
set_option maxHeartbeats 2000000 in
theorem vU:EntOk Try.prog 9 (Ent.pure lk):=by
 refine EntOk.pure fun args H K h=>?_
 unfold lk at h
 split at h
 rotate_left
 ·exact h.elim
 rename_i s
 obtain ⟨hsl,hK⟩:=h
 refine ⟨_,hK,?_⟩
 clear hK
 refine ACalls.fW aE (TblOk.cons jR (TblOk.cons qL (TblOk.cons uN (TblOk.cons lN (TblOk.cons kE TblOk.nil))))) Try.func9 [.tmp 2,.tmp 3,.tmp 4] (Nat.le_refl _) (T:=ax []) (h:=fun hcl hlt=>?_)
 clear hlt
 simp only [go_sem,nP]
 refine al (fun h1=>?_) (fun h1=>?_)
 ·have h1':400<s.length:=by simp at h1;omega
  have e:bz s=([],0,3):=by unfold bz;rw [if_pos h1']
  simp only [go_sem,e,ga]
  simp (disch:=first|assumption|omega|(simp;done)|(simp;omega)|(simp only [bt,and_true];first|done|omega|(simp;done))) [↓zmi,beq,ybc,ybd,ybe,ag,wk,wk2,wk1,wkM,wkL,ak,ybf,hcl,eQ]
 have h1':¬ 400<s.length:=by simp at h1;omega
 simp only [go_sem]
 refine az (A:=Nat × List Tok × Nat × AHeap) (fun a=>[(0,.str s),(5,.slice (.own a.2.2.1) 3 (cj a.2.1)),(6,.int .i64 (a.1:Int))]) (fun a=>a.2.2.2)
  (fun a=>(a.1≤s.length∧a.2.1.length≤a.1∧rest s 0=(a.2.1++(rest s a.1).1,(rest s a.1).2))∧H.Le a.2.2.2∧a.2.2.2.Closed∧H.nx≤a.2.2.1∧a.2.2.2.get a.2.2.1=some (.buf 3 a.2.1.length))
  (fun a=>s.length - a.1) (0,[],H.nx+1,(H.push (.buf 3 0)).push (.buf 3 0)) ⟨⟨by omega,by simp,by simp⟩,?_,?_,by simp,?_⟩ ?_ fun a ha=>?_
 ·simp (disch:=first|assumption|omega|(simp;done)|(simp;omega)|(simp only [bt,and_true];first|done|omega|(simp;done))) [↓zmi,beq,ybc,ybd,ybe,ag,wk,wk2,wk1,wkM,wkL,ak,ybf,hcl]
 ·(repeat' (first|assumption|omega|exact True.intro|refine And.intro ?_ ?_|refine af ?_|refine aa ?_|refine ae ?_ ?_|refine ah ?_ ?_|refine ai ?_|exact AHeap.Le.refl _|refine AHeap.Le.push ?_ _|refine AHeap.Le.del ?_ ?_|(simp only [bt,and_true,true_and];first|done|omega|(simp;done))))
 ·exact AHeap.get_push_new _ _
 ·(simp only [bkq,enterW,bd,ltF,ne_eq,Nat.reduceEqDiff,reduceCtorEq,ga];try simp (disch:=first|assumption|omega|(simp;done)|(simp;omega)|(simp only [bt,and_true];first|done|omega|(simp;done))) [↓zmi,beq,ybc,ybd,ybe,ag,wk,wk2,wk1,wkM,wkL,ak,ybf,byq,biq,aj,hcl,ga];try (repeat' (first|assumption|omega|exact True.intro|refine And.intro ?_ ?_|refine af ?_|refine aa ?_|refine ae ?_ ?_|refine ah ?_ ?_|refine ai ?_|exact AHeap.Le.refl _|refine AHeap.Le.push ?_ _|refine AHeap.Le.del ?_ ?_|(simp only [bt,and_true,true_and,ga];first|done|omega|(simp;done)))))
 obtain ⟨k,pre,id,Hc⟩:=a
 obtain ⟨⟨hk,hpl,hr⟩,hle,hcc,hid,hst⟩:=ha
 dsimp only at hk hpl hr hle hcc hid hst ⊢
 have hnx:H.nx≤Hc.nx:=hle.nx
 have hid2:id<Hc.nx:=AHeap.get_lt hst
 simp only [go_sem]
 refine al (fun h2=>?_) (fun h2=>?_)
 ·have hk1:k<s.length:=by simp at h2;omega
  have e5:IntKind.i64.wrap ((k:Int)+1)=((k+1:Nat):Int):=by rw [wrap_i64]<;>omega
  simp only [go_sem,fJ,Int.toNat_natCast,List.take_length]
  refine ⟨by omega,al (fun h3=>?_) (fun h3=>?_)⟩
  ·have hc:s[k]=32:=by rw [nu hk1] at h3;simpa using h3
   rw [qu hk1 hc] at hr
   simp only [go_sem,e5]
   refine ⟨(k+1,pre,id,Hc),⟨⟨by dsimp only;omega,by dsimp only;omega,hr⟩,hle,hcc,hid,hst⟩,by dsimp only;omega,?_⟩
   (simp only [bkq,enterW,bd,ltF,ne_eq,Nat.reduceEqDiff,reduceCtorEq,hcc,hnx,hid2];try simp (disch:=first|assumption|omega|(simp;done)|(simp;omega)|(simp only [bt,and_true];first|done|omega|(simp;done))) [↓zmi,beq,ybc,ybd,ybe,ag,wk,wk2,wk1,wkM,wkL,ak,ybf,byq,biq,aj,hcl,hcc,hnx,hid2];try (repeat' (first|assumption|omega|exact True.intro|refine And.intro ?_ ?_|refine af ?_|refine aa ?_|refine ae ?_ ?_|refine ah ?_ ?_|refine ai ?_|exact AHeap.Le.refl _|refine AHeap.Le.push ?_ _|refine AHeap.Le.del ?_ ?_|(simp only [bt,and_true,true_and,hcc,hnx,hid2];first|done|omega|(simp;done)))))
   exact kR hid2
  have n1:(id=Hc.nx)=False:=eq_false (by omega)
  have n2:(id=Hc.nx+1)=False:=eq_false (by omega)
  have n3:(id=Hc.nx+1+1)=False:=eq_false (by omega)
  have hc:s[k]≠32:=by rw [nu hk1] at h3;simpa using h3
  have hsd:(s.drop k).length≤400:=by rw [List.length_drop];omega
  simp only [go_sem,kl,oo]
  refine ⟨by omega,?_⟩
  cases hw:b8 (s.drop k) with
  |nil =>
   have en:(([]:List UInt8) != [])=false:=rfl
   rcases Classical.em (jQ (s.drop k)=[]) with hy|hy
   ·have htk:=s7 hw hy
    rw [pZ hk1 hc htk,yaj] at hr
    have hsc:=ng h1' hr
    have eb:(([]:List UInt8)==[])=true:=rfl
    simp only [go_sem,hsc,hy,en,eb,zau,zat,ga]
    simp (disch:=first|assumption|omega|(simp;done)|(simp;omega)|(simp only [bt,and_true];first|done|omega|(simp;done))) [↓zmi,beq,ybc,ybd,ybe,ag,wk,wk2,wk1,wkM,wkL,ak,ybf,hcc,hle,hcl]
    exact (hle.push _).push _
   ·have htk:=vf hw rfl hy
    have eb:(jQ (s.drop k)==[])=false:=by simpa using hy
    have eb0:(([]:List UInt8)==[])=true:=rfl
    obtain ⟨hy1,hy2⟩:=li hk1 htk
    generalize jQ (s.drop k)=y at *
    have e6:IntKind.i64.wrap ((k:Int)+(y.length:Int))=((k+y.length:Nat):Int):=by rw [wrap_i64]<;>omega
    simp only [go_sem,en,eb,eb0,zau,zat,n1,n2,hst,aO,yh,e6,qZ]
    refine ⟨by omega,n5 hk1 hc htk hpl hr (((bB hle hid).push _).push _) ?_ hid ?_ rfl rfl rfl⟩
    ·exact af (ae (aa hcc) (by simp [zno,znp,zmz,znb]))
    ·rw [AHeap.get_push_lt _ _ (by simp [AHeap.push,AHeap.set];omega),AHeap.get_push_lt _ _ (by simp [AHeap.set];omega),AHeap.get_set_same _ _ hid2]
  |cons c w =>
   have en:((c::w) != [])=true:=rfl
   have eb:((c::w)==[])=false:=rfl
   simp only [go_sem,en,eb,zat,iO]
   refine ⟨by omega,c,rfl,?_⟩
   cases hlc:dh c with
   |true =>
    have htk:=vX hw hlc
    obtain ⟨_,hy2⟩:=li hk1 htk
    have e6:IntKind.i64.wrap ((k:Int)+((w.length+1:Nat):Int))=((k+(c::w).length:Nat):Int):=by
     rw [yaz] at hy2 ⊢
     rw [wrap_i64]<;>omega
    simp only [go_sem,en,eb,zau,zat,n1,n2,hst,aO,xN,e6,qZ]
    refine ⟨by omega,n5 hk1 hc htk hpl hr (((bB hle hid).push _).push _) ?_ hid ?_ rfl rfl rfl⟩
    ·exact af (ae (aa hcc) (by simp [zno,znp,zmz,znb]))
    ·rw [AHeap.get_push_lt _ _ (by simp [AHeap.push,AHeap.set];omega),AHeap.get_push_lt _ _ (by simp [AHeap.set];omega),AHeap.get_set_same _ _ hid2]
   |false =>
    have hcw:(c::w).length≤400:=by rw [← hw];exact Nat.le_trans (List.takeWhile_sublist _).length_le hsd
    simp only [go_sem,en,eb,zau,zat,gy]
    cases hli:lit (c::w) with
    |none =>
     have htk:=uF hw hlc hli
     rw [pZ hk1 hc htk,yaj] at hr
     have hsc:=ng h1' hr
     simp only [go_sem,hsc,k7,nAV,zau,zat,ga]
     refine ⟨by simp only [yaz] at hcw;omega,?_⟩
     simp (disch:=first|assumption|omega|(simp;done)|(simp;omega)|(simp only [bt,and_true];first|done|omega|(simp;done))) [↓zmi,beq,ybc,ybd,ybe,ag,wk,wk2,wk1,wkM,wkL,ak,ybf,hcc,hle,hcl]
     exact ((hle.push _).push _).push _
    |some n =>
     have htk:=tR hw hlc hli
     obtain ⟨_,hy2⟩:=li hk1 htk
     have e6:IntKind.i64.wrap ((k:Int)+((w.length+1:Nat):Int))=((k+(c::w).length:Nat):Int):=by
      rw [yaz] at hy2 ⊢
      rw [wrap_i64]<;>omega
     simp only [go_sem,k7,nAV,zau,zat,n1,n2,n3,eb,hst,aO,xG,e6,qZ]
     refine ⟨by simp only [yaz] at hcw;omega,by omega,n5 hk1 hc htk hpl hr ((((bB hle hid).push _).push _).push _) ?_ hid ?_ rfl rfl rfl⟩
     ·exact af (ae (ae (aa hcc) (by simp [zno,znp,zmz,znb])) (by simp [zno,znp,zmz,znb]))
     ·rw [AHeap.get_push_lt _ _ (by simp [AHeap.push,AHeap.set];omega),AHeap.get_push_lt _ _ (by simp [AHeap.push,AHeap.set];omega),AHeap.get_push_lt _ _ (by simp [AHeap.set];omega),AHeap.get_set_same _ _ hid2]
 ·have hk1:s.length≤k:=by simp at h2;omega
  rw [wc hk1,yaj] at hr
  have hsc:=sB h1' hr
  simp only [go_sem,hsc]
  simp (disch:=first|assumption|omega|(simp;done)|(simp;omega)|(simp only [bt,and_true];first|done|omega|(simp;done))) [↓zmi,beq,ybc,ybd,ybe,ag,wk,wk2,wk1,wkM,wkL,ak,ybf,hcc,hle,wy,hcl]
end Go.AL
