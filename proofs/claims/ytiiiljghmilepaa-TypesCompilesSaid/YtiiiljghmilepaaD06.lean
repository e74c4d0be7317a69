/- Contracts and plain laws, a part of the proof; no condition of its own. -/
import Derived.Test.YtiiiljghmilepaaC06
open List renaming length_cons → yaz, length_nil → yba, take_of_length_le → ybc, drop_append → ybd, take_append → ybe, drop_eq_nil_of_le → ybf, append_nil → yaj
open Go Go.AL Go.Proofs
namespace Go.AL
set_option linter.all false
set_option maxRecDepth 10000
def qe:List AV→AHeap→(AV→Prop)→Prop
 |[x],_,K=>∃ c,x=bf c∧K (.bool (cb c))
 |_,_,_=>False
theorem vW:EntOk Try.prog 61 (Ent.pure qe):=by
 refine EntOk.pure fun args H K h=>?_
 unfold qe at h
 split at h
 rotate_left
 ·exact h.elim
 obtain ⟨c,rfl,hK⟩:=h
 refine ⟨_,hK,?_⟩
 clear hK
 refine ACalls.fW aI TblOk.nil Try.func61 [.tmp 2] (Nat.le_refl _) (T:=aA []) (h:=fun hcl hlt=>?_)
 clear hlt
 simp only [go_sem,bf]
 have e95:(((c.toNat:Nat):Int)==95)=(c==95):=by rw [Bool.eq_iff_iff];simp [← UInt8.toNat_inj];omega
 rw [e95]
 have fin:∀ {t:Bool},cb c=t→ag H (AV.bool t) H (AV.bool (cb c)):=fun e=>by
  rw [e]
  simp (disch:=first|assumption|omega|(simp;done)|(simp;omega)|(simp only [bt,and_true];first|done|omega|(simp;done))) [↓zmi,beq,ybc,ybd,ybe,ag,wk,wk2,wk1,wkM,wkL,am,ybf,hcl]
 have tl:ce c=false→gB (decide ((c.toNat:Int) ≥ 48)) (gB (decide ((c.toNat:Int)≤57)) (ag H (AV.bool true) H (AV.bool (cb c))) (ag H (AV.bool (c==95)) H (AV.bool (cb c)))) (ag H (AV.bool (c==95)) H (AV.bool (cb c))):=fun h1=>by
  refine bb (fun h2=>?_) (fun h2=>?_)
  ·have h2':48≤c.toNat:=by simp at h2;omega
   refine bb (fun h3=>?_) (fun h3=>?_)
   ·have h3':c.toNat≤57:=by simp at h3;omega
    exact fin (by unfold cb;rw [decide_eq_true h2',decide_eq_true h3'];simp)
   ·have h3':¬ c.toNat≤57:=by simp at h3;omega
    exact fin (by unfold cb;rw [decide_eq_false h3',h1];simp)
  ·have h2':¬ 48≤c.toNat:=by simp at h2;omega
   exact fin (by unfold cb;rw [decide_eq_false h2',h1];simp)
 refine bb (fun h1=>bb (fun h2=>?_) (fun h2=>tl ?_)) (fun h1=>tl ?_)
 ·exact fin (by unfold cb ce;simp at h1 h2;rw [decide_eq_true (by omega),decide_eq_true (by omega)];simp)
 ·unfold ce;simp at h2;rw [decide_eq_false (p:=c.toNat≤122) (by omega)];simp
 ·unfold ce;simp at h1;rw [decide_eq_false (p:=97≤c.toNat) (by omega)];simp
def pl:List AV→AHeap→(AV→Prop)→Prop
 |[.str s],_,K=>s.length≤140737488355328∧K (.int .i64 ((b8 s).length:Int))
 |_,_,_=>False
theorem w9:EntOk Try.prog 36 (Ent.pure pl):=by
 refine EntOk.pure fun args H K h=>?_
 unfold pl at h
 split at h
 rotate_left
 ·exact h.elim
 rename_i s
 obtain ⟨hsl,hK⟩:=h
 refine ⟨_,hK,?_⟩
 clear hK
 refine ACalls.fW aI (TblOk.cons vW TblOk.nil) Try.func36 [.tmp 2] (Nat.le_refl _) (T:=aA []) (h:=fun hcl hlt=>?_)
 clear hlt
 simp only [go_sem]
 refine ax (A:=Nat) (fun k=>[(0,.str s),(3,.int .i64 (k:Int))]) (fun k=>H) (fun k=>k≤s.length∧b8 s=s.take k++b8 (s.drop k)) (fun k=>s.length - k) 0 ⟨by omega,by simp⟩ ?_ fun k hk=>?_
 ·(simp only [bkq,enterW,aR,ltF,ne_eq,Nat.reduceEqDiff,reduceCtorEq];try simp (disch:=first|assumption|omega|(simp;done)|(simp;omega)|(simp only [bt,and_true];first|done|omega|(simp;done))) [↓zmi,beq,ybc,ybd,ybe,ag,wk,wk2,wk1,wkM,wkL,am,ybf,byq,biq,ae,hcl];try (repeat' (first|assumption|omega|exact True.intro|refine And.intro ?_ ?_|refine af ?_|refine aa ?_|refine ac ?_ ?_|refine ah ?_ ?_|refine aj ?_|exact AHeap.Le.refl _|refine AHeap.Le.push ?_ _|refine AHeap.Le.del ?_ ?_|(simp only [bt,and_true,true_and];first|done|omega|(simp;done)))))
 obtain ⟨hk,hs⟩:=hk
 have hmin:(s.take k).length=k:=by rw [List.length_take];omega
 simp only [go_sem]
 refine bb (fun h1=>?_) (fun h1=>?_)
 ·have hk1:k<s.length:=by simp at h1;omega
  have e5:IntKind.i64.wrap ((k:Int)+1)=((k+1:Nat):Int):=by rw [wrap_i64]<;>omega
  simp only [go_sem,qe,Int.toNat_natCast]
  refine ⟨by omega,s.getD k 0,rfl,?_⟩
  refine ak (fun h2=>?_) (fun h2=>?_)
  ·simp only [go_sem,e5]
   refine ⟨k+1,⟨by omega,pd hk1 h2 hs⟩,by omega,?_⟩
   (simp only [bkq,enterW,aR,ltF,ne_eq,Nat.reduceEqDiff,reduceCtorEq];try simp (disch:=first|assumption|omega|(simp;done)|(simp;omega)|(simp only [bt,and_true];first|done|omega|(simp;done))) [↓zmi,beq,ybc,ybd,ybe,ag,wk,wk2,wk1,wkM,wkL,am,ybf,byq,biq,ae,hcl];try (repeat' (first|assumption|omega|exact True.intro|refine And.intro ?_ ?_|refine af ?_|refine aa ?_|refine ac ?_ ?_|refine ah ?_ ?_|refine aj ?_|exact AHeap.Le.refl _|refine AHeap.Le.push ?_ _|refine AHeap.Le.del ?_ ?_|(simp only [bt,and_true,true_and];first|done|omega|(simp;done)))))
  ·have hw:=lJ hk1 h2 hs
   simp only [go_sem,Int.toNat_natCast,hw,hmin]
   simp (disch:=first|assumption|omega|(simp;done)|(simp;omega)|(simp only [bt,and_true];first|done|omega|(simp;done))) [↓zmi,beq,ybc,ybd,ybe,ag,wk,wk2,wk1,wkM,wkL,am,ybf,hcl]
 ·have hk1:¬ k<s.length:=by simp at h1;omega
  have hw:=ne hk1 hs
  try simp only [go_sem,Int.toNat_natCast,hw,hmin,zau]
  simp (disch:=first|assumption|omega|(simp;done)|(simp;omega)|(simp only [bt,and_true];first|done|omega|(simp;done))) [↓zmi,beq,ybc,ybd,ybe,ag,wk,wk2,wk1,wkM,wkL,am,ybf,hcl]
theorem kb {s p:List UInt8}:eP s p=(decide (p.length≤s.length)&&(s.take p.length==p)):=by
 unfold eP
 rw [Bool.eq_iff_iff]
 simp
 intro h
 have:=congrArg List.length h
 rw [List.length_take] at this
 omega
def lr:List AV→AHeap→(AV→Prop)→Prop
 |[.str s],_,K=>K (.int .i64 ((fQ s).length:Int))
 |_,_,_=>False
theorem st:EntOk Try.prog 35 (Ent.pure lr):=by
 refine EntOk.pure fun args H K h=>?_
 unfold lr at h
 split at h
 rotate_left
 ·exact h.elim
 rename_i s
 refine ⟨_,h,?_⟩
 clear h
 refine ACalls.fW aI TblOk.nil Try.func35 [.tmp 2] (Nat.le_refl _) (T:=aA []) (h:=fun hcl hlt=>?_)
 clear hlt
 simp only [go_sem,xa,ai]
 refine ax (A:=Nat) (fun k=>[(0,.str s),(5,.slice .any 1 (sAV syms)),(6,.int .i64 15),(7,.int .i64 (k:Int))]) (fun k=>H) (fun k=>k≤15∧fQ s=nD (syms.drop k) s) (fun k=>15 - k) 0 ⟨by omega,rfl⟩ ?_ fun k hk=>?_
 ·(simp only [bkq,enterW,aR,ltF,ne_eq,Nat.reduceEqDiff,reduceCtorEq,br,dO];try simp (disch:=first|assumption|omega|(simp;done)|(simp;omega)|(simp only [bt,and_true];first|done|omega|(simp;done))) [↓zmi,beq,ybc,ybd,ybe,ag,wk,wk2,wk1,wkM,wkL,am,ybf,byq,biq,ae,hcl,br,dO];try (repeat' (first|assumption|omega|exact True.intro|refine And.intro ?_ ?_|refine af ?_|refine aa ?_|refine ac ?_ ?_|refine ah ?_ ?_|refine aj ?_|exact AHeap.Le.refl _|refine AHeap.Le.push ?_ _|refine AHeap.Le.del ?_ ?_|(simp only [bt,and_true,true_and,br,dO];first|done|omega|(simp;done)))))
  trace_state
 obtain ⟨hk,hs⟩:=hk
 simp only [go_sem]
 refine ak (fun h1=>?_) (fun h1=>?_)
 ·have hk2:k<15:=by simp at h1;omega
  have hk1:k<syms.length:=by rw [dO];exact hk2
  have hg:(sAV syms).getD k .junk=.str (syms.getD k []):=gf hk1
  have e5:IntKind.i64.wrap ((k:Int)+1)=((k+1:Nat):Int):=by rw [wrap_i64]<;>omega
  have hgk:syms.getD k []=syms[k]:=by simp [List.getD_eq_getElem?_getD,hk1]
  rw [List.drop_eq_getElem_cons hk1,oS] at hs
  rw [hgk] at hg
  generalize syms[k]=x at *
  simp only [go_sem,Int.toNat_natCast,ai,dO,hg,e5]
  refine ⟨by omega,?_⟩
  refine bb (fun h2=>?_) (fun h2=>?_)
  ·have h2':x.length≤s.length:=by simp at h2;omega
   refine ⟨by omega,ak (fun h3=>?_) (fun h3=>?_)⟩
   ·rw [if_pos (by rw [kb,decide_eq_true h2'];simpa using h3)] at hs
    simp only [go_sem,hs]
    simp (disch:=first|assumption|omega|(simp;done)|(simp;omega)|(simp only [bt,and_true];first|done|omega|(simp;done))) [↓zmi,beq,ybc,ybd,ybe,ag,wk,wk2,wk1,wkM,wkL,am,ybf,hcl]
   ·rw [if_neg (by rw [kb,decide_eq_true h2'];simpa using h3)] at hs
    simp only [go_sem,e5]
    refine ⟨k+1,⟨by omega,hs⟩,by omega,?_⟩
    (simp only [bkq,enterW,aR,ltF,ne_eq,Nat.reduceEqDiff,reduceCtorEq,br];try simp (disch:=first|assumption|omega|(simp;done)|(simp;omega)|(simp only [bt,and_true];first|done|omega|(simp;done))) [↓zmi,beq,ybc,ybd,ybe,ag,wk,wk2,wk1,wkM,wkL,am,ybf,byq,biq,ae,hcl,br];try (repeat' (first|assumption|omega|exact True.intro|refine And.intro ?_ ?_|refine af ?_|refine aa ?_|refine ac ?_ ?_|refine ah ?_ ?_|refine aj ?_|exact AHeap.Le.refl _|refine AHeap.Le.push ?_ _|refine AHeap.Le.del ?_ ?_|(simp only [bt,and_true,true_and,br];first|done|omega|(simp;done)))))
  ·have h2':¬ x.length≤s.length:=by simp at h2;omega
   rw [if_neg (by rw [kb,decide_eq_false h2'];simp)] at hs
   try simp only [go_sem,e5,zau]
   refine ⟨k+1,⟨by omega,hs⟩,by omega,?_⟩
   (simp only [bkq,enterW,aR,ltF,ne_eq,Nat.reduceEqDiff,reduceCtorEq,br];try simp (disch:=first|assumption|omega|(simp;done)|(simp;omega)|(simp only [bt,and_true];first|done|omega|(simp;done))) [↓zmi,beq,ybc,ybd,ybe,ag,wk,wk2,wk1,wkM,wkL,am,ybf,byq,biq,ae,hcl,br];try (repeat' (first|assumption|omega|exact True.intro|refine And.intro ?_ ?_|refine af ?_|refine aa ?_|refine ac ?_ ?_|refine ah ?_ ?_|refine aj ?_|exact AHeap.Le.refl _|refine AHeap.Le.push ?_ _|refine AHeap.Le.del ?_ ?_|(simp only [bt,and_true,true_and,br];first|done|omega|(simp;done)))))
 ·have hk1:k=15:=by simp at h1;omega
  subst hk1
  have h0:fQ s=[]:=by rw [hs];rfl
  simp only [go_sem,h0]
  simp (disch:=first|assumption|omega|(simp;done)|(simp;omega)|(simp only [bt,and_true];first|done|omega|(simp;done))) [↓zmi,beq,ybc,ybd,ybe,ag,wk,wk2,wk1,wkM,wkL,am,ybf,hcl]
def mc:List AV→AHeap→(AV→Prop)→Prop
 |[.str s],_,K=>s.length≤140737488355328∧K (iK s)
 |_,_,_=>False
theorem nP {s:List UInt8} {k kd:Nat} {x:List UInt8} (h:gN (s.drop k)=some (kd,x)):(s.take (k+x.length)).drop k=x:=by
 rw [List.drop_take,Nat.add_sub_cancel_left]
 exact (gI h).2.2
theorem zV {w:List UInt8}:lit (95::w)=none:=by
 unfold lit
 rw [if_neg (by simp [eP]),if_neg (by simp)]
 rfl
theorem uS {s w:List UInt8} {c:UInt8} {k:Nat} (h:k<s.length) (hw:b8 (s.drop k)=c::w):s[k]=c∧cb c=true:=by
 have e:s.getD k 0=s[k]:=by simp [List.getD_eq_getElem?_getD,h]
 rw [iS h] at hw
 split at hw
 ·rename_i hp
  rw [e] at hw hp
  injection hw with h1 h2
  subst h1
  exact ⟨rfl,hp⟩
 ·cases hw
set_option maxHeartbeats 2000000 in
theorem vL:EntOk Try.prog 10 (Ent.pure mc):=by
 refine EntOk.pure fun args H K h=>?_
 unfold mc at h
 split at h
 rotate_left
 ·exact h.elim
 rename_i s
 obtain ⟨hsl,hK⟩:=h
 refine ⟨_,hK,?_⟩
 clear hK
 refine ACalls.fW aI (TblOk.cons st (TblOk.cons w9 (TblOk.cons rR TblOk.nil))) Try.func10 [.tmp 2,.tmp 3,.tmp 4] (Nat.le_refl _) (T:=aA []) (h:=fun hcl hlt=>?_)
 clear hlt
 simp only [go_sem,iK]
 refine ak (fun h1=>?_) (fun h1=>?_)
 ·have h1':400<s.length:=by simp at h1;omega
  have e:bp s=([],0,3):=by unfold bp;rw [if_pos h1']
  simp only [go_sem,e,cM]
  simp (disch:=first|assumption|omega|(simp;done)|(simp;omega)|(simp only [bt,and_true];first|done|omega|(simp;done))) [↓zmi,beq,ybc,ybd,ybe,ag,wk,wk2,wk1,wkM,wkL,am,ybf,hcl,eL]
 have h1':¬ 400<s.length:=by simp at h1;omega
 simp only [go_sem]
 refine ax (A:=Nat × List Tok × Nat × AHeap) (fun a=>[(0,.str s),(5,.slice (.own a.2.2.1) 3 (bR a.2.1)),(6,.int .i64 (a.1:Int))]) (fun a=>a.2.2.2)
  (fun a=>(a.1≤s.length∧a.2.1.length≤a.1∧rest s 0=(a.2.1++(rest s a.1).1,(rest s a.1).2))∧H.Le a.2.2.2∧a.2.2.2.Closed∧H.nx≤a.2.2.1∧a.2.2.2.get a.2.2.1=some (.buf 3 a.2.1.length))
  (fun a=>s.length - a.1) (0,[],H.nx+1,(H.push (.buf 3 0)).push (.buf 3 0)) ⟨⟨by omega,by simp,by simp⟩,?_,?_,by simp,?_⟩ ?_ fun a ha=>?_
 ·simp (disch:=first|assumption|omega|(simp;done)|(simp;omega)|(simp only [bt,and_true];first|done|omega|(simp;done))) [↓zmi,beq,ybc,ybd,ybe,ag,wk,wk2,wk1,wkM,wkL,am,ybf,hcl]
 ·(repeat' (first|assumption|omega|exact True.intro|refine And.intro ?_ ?_|refine af ?_|refine aa ?_|refine ac ?_ ?_|refine ah ?_ ?_|refine aj ?_|exact AHeap.Le.refl _|refine AHeap.Le.push ?_ _|refine AHeap.Le.del ?_ ?_|(simp only [bt,and_true,true_and];first|done|omega|(simp;done))))
 ·exact AHeap.get_push_new _ _
 ·(simp only [bkq,enterW,aR,ltF,ne_eq,Nat.reduceEqDiff,reduceCtorEq,cM];try simp (disch:=first|assumption|omega|(simp;done)|(simp;omega)|(simp only [bt,and_true];first|done|omega|(simp;done))) [↓zmi,beq,ybc,ybd,ybe,ag,wk,wk2,wk1,wkM,wkL,am,ybf,byq,biq,ae,hcl,cM];try (repeat' (first|assumption|omega|exact True.intro|refine And.intro ?_ ?_|refine af ?_|refine aa ?_|refine ac ?_ ?_|refine ah ?_ ?_|refine aj ?_|exact AHeap.Le.refl _|refine AHeap.Le.push ?_ _|refine AHeap.Le.del ?_ ?_|(simp only [bt,and_true,true_and,cM];first|done|omega|(simp;done)))))
 obtain ⟨k,pre,id,Hc⟩:=a
 obtain ⟨⟨hk,hpl,hr⟩,hle,hcc,hid,hst⟩:=ha
 dsimp only at hk hpl hr hle hcc hid hst ⊢
 have hnx:H.nx≤Hc.nx:=hle.nx
 have hid2:id<Hc.nx:=AHeap.get_lt hst
 simp only [go_sem]
 refine ak (fun h2=>?_) (fun h2=>?_)
 ·have hk1:k<s.length:=by simp at h2;omega
  have e5:IntKind.i64.wrap ((k:Int)+1)=((k+1:Nat):Int):=by rw [wrap_i64]<;>omega
  have hsg:s.getD k 0=s[k]:=by simp [List.getD_eq_getElem?_getD,hk1]
  simp only [go_sem,Int.toNat_natCast,List.take_length,hsg]
  refine ⟨by omega,ak (fun h3=>?_) (fun h3=>?_)⟩
  ·have hc:s[k]=32:=by simp at h3;rw [← UInt8.toNat_inj];simp;omega
   rw [mq hk1 hc] at hr
   simp only [go_sem,e5]
   refine ⟨(k+1,pre,id,Hc),⟨⟨by dsimp only;omega,by dsimp only;omega,hr⟩,hle,hcc,hid,hst⟩,by dsimp only;omega,?_⟩
   (simp only [bkq,enterW,aR,ltF,ne_eq,Nat.reduceEqDiff,reduceCtorEq,hcc,hnx,hid2];try simp (disch:=first|assumption|omega|(simp;done)|(simp;omega)|(simp only [bt,and_true];first|done|omega|(simp;done))) [↓zmi,beq,ybc,ybd,ybe,ag,wk,wk2,wk1,wkM,wkL,am,ybf,byq,biq,ae,hcl,hcc,hnx,hid2];try (repeat' (first|assumption|omega|exact True.intro|refine And.intro ?_ ?_|refine af ?_|refine aa ?_|refine ac ?_ ?_|refine ah ?_ ?_|refine aj ?_|exact AHeap.Le.refl _|refine AHeap.Le.push ?_ _|refine AHeap.Le.del ?_ ?_|(simp only [bt,and_true,true_and,hcc,hnx,hid2];first|done|omega|(simp;done)))))
   exact iW hid2
  have n1:(id=Hc.nx)=False:=eq_false (by omega)
  have n2:(id=Hc.nx+1)=False:=eq_false (by omega)
  have n3:(id=Hc.nx+1+1)=False:=eq_false (by omega)
  have hc:s[k]≠32:=fun e=>by rw [e] at h3;simp at h3
  have hsd:(s.drop k).length≤400:=by rw [List.length_drop];omega
  simp only [go_sem,lr,pl,List.take_length,Int.toNat_natCast]
  refine ⟨by omega,by omega,by omega,?_⟩
  cases hw:b8 (s.drop k) with
  |nil =>
   refine ak (fun h4=>by simp at h4) (fun _=>?_)
   simp only [go_sem]
   refine ak (fun h5=>?_) (fun h5=>?_)
   ·have hy:fQ (s.drop k)=[]:=by simp at h5;exact h5
    have htk:=oM hw hy
    rw [iY hk1 hc htk,yaj] at hr
    have hsc:=gM h1' hr
    simp only [go_sem,hsc,hy,cM]
    simp (disch:=first|assumption|omega|(simp;done)|(simp;omega)|(simp only [bt,and_true];first|done|omega|(simp;done))) [↓zmi,beq,ybc,ybd,ybe,ag,wk,wk2,wk1,wkM,wkL,am,ybf,hcc,hle,hcl]
    exact (hle.push _).push _
   ·have hy:fQ (s.drop k)≠[]:=by intro e;rw [e] at h5;simp at h5
    have htk:=qp hw rfl hy
    obtain ⟨hy1,hy2⟩:=kU hk1 htk
    have hx:=nP htk
    generalize fQ (s.drop k)=y at *
    have e6:IntKind.i64.wrap ((k:Int)+(y.length:Int))=((k+y.length:Nat):Int):=by rw [wrap_i64]<;>omega
    simp only [go_sem,Int.toNat_natCast,n1,n2,hst,hx,aB,vI,e6,lD]
    refine ⟨by omega,by omega,jx hk1 hc htk hpl hr (((cm hle hid).push _).push _) ?_ hid ?_ rfl rfl rfl⟩
    ·exact af (ac (aa hcc) (by simp [zno,znp,zmz,znb]))
    ·rw [AHeap.get_push_lt _ _ (by simp [AHeap.push,AHeap.set];omega),AHeap.get_push_lt _ _ (by simp [AHeap.set];omega),AHeap.get_set_same _ _ hid2]
  |cons c w =>
   obtain ⟨hsc0,hpt⟩:=uS hk1 hw
   have hcw:(c::w).length≤400:=by rw [← hw];exact Nat.le_trans (List.takeWhile_sublist _).length_le hsd
   have hx:(s.take (k+(w.length+1))).drop k=c::w:=by
    rw [show w.length+1=(c::w).length from rfl,List.drop_take,Nat.add_sub_cancel_left,← hw];exact fT _
   have hy2:k+(c::w).length≤s.length:=by
    have:=(List.takeWhile_sublist (p:=cb) (l:=s.drop k)).length_le
    rw [show (s.drop k).takeWhile cb=c::w from hw,List.length_drop] at this
    simp only [yaz] at this ⊢;omega
   have e6:IntKind.i64.wrap ((k:Int)+((w.length+1:Nat):Int))=((k+(c::w).length:Nat):Int):=by
    rw [yaz] at hy2 ⊢
    rw [wrap_i64]<;>omega
   refine ak (fun _=>?_) (fun h4=>by simp at h4)
   simp only [go_sem,Int.toNat_natCast,hsg,hsc0]
   refine ⟨by omega,ak (fun h5=>?_) (fun h5=>?_)⟩
   ·have hc95:c=95:=by simp at h5;rw [← UInt8.toNat_inj];simp;omega
    subst hc95
    have htk:=mr hw (by decide) zV
    rw [iY hk1 hc htk,yaj] at hr
    have hsc:=gM h1' hr
    simp only [go_sem,hsc,cM]
    simp (disch:=first|assumption|omega|(simp;done)|(simp;omega)|(simp only [bt,and_true];first|done|omega|(simp;done))) [↓zmi,beq,ybc,ybd,ybe,ag,wk,wk2,wk1,wkM,wkL,am,ybf,hcc,hle,hcl]
    exact (hle.push _).push _
   have hc95:c≠95:=fun e=>by rw [e] at h5;simp at h5
   simp only [go_sem,Int.toNat_natCast,hsg,hsc0]
   refine ⟨by omega,ak (fun h6=>?_) (fun h6=>?_)⟩
   ·have hlc:ce c=false:=by unfold ce;simp at h6;rw [decide_eq_false (p:=97≤c.toNat) (by omega)];simp
    simp only [go_sem,Int.toNat_natCast,kg,e6,hx]
    cases hli:lit (c::w) with
    |none =>
     have htk:=mr hw hlc hli
     rw [iY hk1 hc htk,yaj] at hr
     have hsc:=gM h1' hr
     simp only [go_sem,hsc,kf,zAV,zau,zat,cM]
     refine ⟨by simp only [yaz] at hy2;omega,by simp only [yaz] at hcw;omega,?_⟩
     simp (disch:=first|assumption|omega|(simp;done)|(simp;omega)|(simp only [bt,and_true];first|done|omega|(simp;done))) [↓zmi,beq,ybc,ybd,ybe,ag,wk,wk2,wk1,wkM,wkL,am,ybf,hcc,hle,hcl]
     exact ((hle.push _).push _).push _
    |some n =>
     have htk:=ro hw hlc hli
     simp only [go_sem,kf,zAV,zau,zat]
     refine ⟨by simp only [yaz] at hy2;omega,by simp only [yaz] at hcw;omega,ak (fun h7=>by simp at h7;omega) (fun _=>?_)⟩
     simp only [go_sem,Int.toNat_natCast,n1,n2,n3,hst,hx,aB,xM,e6,lD]
     refine ⟨by simp only [yaz] at hy2;omega,by omega,jx hk1 hc htk hpl hr ((((cm hle hid).push _).push _).push _) ?_ hid ?_ rfl rfl rfl⟩
     ·exact af (ac (ac (aa hcc) (by simp [zno,znp,zmz,znb])) (by simp [zno,znp,zna,zmg]))
     ·rw [AHeap.get_push_lt _ _ (by simp [AHeap.push,AHeap.set];omega),AHeap.get_push_lt _ _ (by simp [AHeap.push,AHeap.set];omega),AHeap.get_push_lt _ _ (by simp [AHeap.set];omega),AHeap.get_set_same _ _ hid2]
   ·have hlc:ce c=true:=by
     unfold cb at hpt
     simp at h6
     rw [decide_eq_false (p:=c.toNat≤57) (by omega),beq_eq_false_iff_ne.2 hc95] at hpt
     simpa using hpt
    have htk:=rQ hw hlc
    simp only [go_sem,Int.toNat_natCast]
    refine ak (fun h7=>by simp at h7;omega) (fun _=>?_)
    simp only [go_sem,Int.toNat_natCast,n1,n2,hst,hx,aB,xm,e6,lD]
    refine ⟨by simp only [yaz] at hy2;omega,by omega,jx hk1 hc htk hpl hr (((cm hle hid).push _).push _) ?_ hid ?_ rfl rfl rfl⟩
    ·exact af (ac (aa hcc) (by simp [zno,znp,zmz,znb]))
    ·rw [AHeap.get_push_lt _ _ (by simp [AHeap.push,AHeap.set];omega),AHeap.get_push_lt _ _ (by simp [AHeap.set];omega),AHeap.get_set_same _ _ hid2]
 ·have hk1:s.length≤k:=by simp at h2;omega
  rw [rn hk1,yaj] at hr
  have hsc:=oU h1' hr
  simp only [go_sem,hsc]
  simp (disch:=first|assumption|omega|(simp;done)|(simp;omega)|(simp only [bt,and_true];first|done|omega|(simp;done))) [↓zmi,beq,ybc,ybd,ybe,ag,wk,wk2,wk1,wkM,wkL,am,ybf,hcc,hle,tD,hcl]
end Go.AL
