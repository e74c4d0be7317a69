/- Contracts and plain laws, a part of the proof; no condition of its own. -/
import Derived.Test.YtiiiljghmilepaaGreatS07u
import Derived.Test.YtiiiljghmilepaaGreatS07d
import Derived.Test.YtiiiljghmilepaaGreatLSyn2
set_option maxHeartbeats 32000000
open List renaming map_cons → yae, length_cons → yaz, length_nil → yba, take_of_length_le → ybc, drop_append → ybd, take_append → ybe, drop_eq_nil_of_le → ybf, cons_append → yal
open Go Go.AL Go.Proofs
namespace Go.AL
set_option linter.all false
set_option maxRecDepth 10000
def its (d:List Nat):List AV:=d.map fun (n:Nat)=>.int .i64 (n:Int)
theorem eN {d:List Nat}:(its d).length=d.length:=by simp [its]
theorem sH {d:List Nat} {a:Nat} (h:a<d.length):(its d).getD a .junk=.int .i64 ((d.getD a 0:Nat):Int):=by
 simp [its,List.getD_eq_getElem?_getD,h]
theorem Br {d:List Nat} {n:Nat}:its d++[.int .i64 (n:Int)]=its (d++[n]):=by simp [its]
theorem BP {n:Nat} {d:List Nat}:ltL n (its d):=by
 induction d with
 |nil=>simp [its,znp]
 |cons a d ih=>simp only [its,yae,zno,zmz,true_and];exact ih
theorem cq {n:Nat} {m:Mark} {d:List Nat}:AV.lt n (.slice m 1 (its d))=∀ id,m=.own id→id<n:=by
 rw [AV.lt]
 refine propext ⟨fun h=>h.1,fun h=>⟨h,fun j hj=>?_⟩⟩
 simp only [its,List.getElem_map]
 simp [zmz]
theorem cK {t:List Nd} {k:Nat} (h:k<t.length):(nds t).getD k .junk=.agg [.int .i64 (t[k].op:Int),.int .i64 (t[k].a:Int),.int .i64 (t[k].b:Int),.str t[k].name,.str t[k].attr,.int .u64 ((t[k].v/2^64:Nat):Int),.int .u64 ((t[k].v % 2^64:Nat):Int)]:=by
 simp [nds,jG,List.getD_eq_getElem?_getD,h]
def mv:List AV→AHeap→(AV→Prop)→Prop
 |[.slice _ 1 x,.int .i64 a,.int .i64 i],_,K=>∃ d,(x=its d∧0≤a∧i=(d.length:Int)∧d.length≤100000)∧K (.int .i64 ((d.getD a.toNat 0:Nat):Int))
 |_,_,_=>False
theorem uj:EntOk Tryz.prog 115 (Ent.pure mv):=by
 refine EntOk.pure fun args H K h=>?_
 unfold mv at h
 split at h
 rotate_left
 ·exact h.elim
 rename_i m x a i
 obtain ⟨d,⟨rfl,h1,rfl,hd⟩,hK⟩:=h
 refine ⟨_,hK,?_⟩
 clear hK
 obtain ⟨a,rfl⟩:=cn h1
 simp only [Int.toNat_natCast]
 refine ACalls.fW aF TblOk.nil Tryz.func115 [.tmp 6] (Nat.le_refl _) (T:=aD []) (h:=fun hcl hlt=>?_)
 clear hlt
 have d1:decide ((a:Int)<0)=false:=by simp
 by_cases ha:a<d.length
 ·have d2:decide ((a:Int) ≥ (d.length:Int))=false:=by simp;omega
  simp only [go_sem,eN,d1,d2,sH ha,Int.toNat_natCast]
  refine ⟨by omega,?_⟩
  simp (disch:=first|assumption|omega|(simp;done)|(simp;omega)|(simp only [bt,and_true];first|done|omega|(simp;done))) [↓zmi,beq,ybc,ybd,ybe,ah,wk,wk2,wk1,wkM,wkL,ap,ybf,hcl]
 ·have d2:decide ((a:Int) ≥ (d.length:Int))=true:=by simp;omega
  have e:d.getD a 0=0:=by rw [List.getD_eq_getElem?_getD,List.getElem?_eq_none (by omega)];rfl
  simp only [go_sem,eN,d1,d2,e]
  simp (disch:=first|assumption|omega|(simp;done)|(simp;omega)|(simp only [bt,and_true];first|done|omega|(simp;done))) [↓zmi,beq,ybc,ybd,ybe,ah,wk,wk2,wk1,wkM,wkL,ap,ybf,hcl]
def jU (t:List Nd) (k:Nat):List AV:=its (cg (t.take k))++its (List.replicate (t.length - k) 0)
theorem uk {t:List Nd} {k:Nat} (h:k≤t.length):(jU t k).length=t.length:=by
 simp only [jU,List.length_append,eN,cw h,List.length_replicate];omega
theorem cX {n:Nat} {t:List Nd} {k:Nat}:ltL n (jU t k):=by
 unfold jU its
 rw [← List.map_append]
 exact BP
theorem tH {t:List Nd} {k a:Nat} (h:k≤t.length) (ha:a<k):(jU t k).getD a .junk=.int .i64 (((cg (t.take k)).getD a 0:Nat):Int):=by
 have h1:a<(cg (t.take k)).length:=by rw [cw h];exact ha
 rw [List.getD_eq_getElem?_getD,jU,List.getElem?_append_left (by rw [eN];exact h1)]
 simp [its,List.getD_eq_getElem?_getD,h1]
theorem rZ:∀ (A:List AV) (x v:AV) (B:List AV),splice (A++x::B) A.length [v]=A++v::B
 |[],x,v,B=>by cases B<;>rfl
 |c::A,x,v,B=>by
  have:=rZ A x v B
  simp only [yal,yaz,splice]
  rw [this]
theorem zQ {t:List Nd} {k d:Nat} (h:k<t.length) (hd:d=dAt (cg (t.take k)) t[k]):splice (jU t k) k [.int .i64 (d:Int)]=jU t (k+1):=by
 have hl:(its (cg (t.take k))).length=k:=by rw [eN,cw (by omega)]
 have e:t.length - k=(t.length - (k+1))+1:=by omega
 unfold jU
 rw [jk h,e,List.replicate_succ,← hd]
 have h2:=rZ (its (cg (t.take k))) (.int .i64 ((0:Nat):Int)) (.int .i64 (d:Int)) (its (List.replicate (t.length - (k+1)) 0))
 rw [hl] at h2
 rw [show its (0::List.replicate (t.length - (k+1)) 0)=.int .i64 ((0:Nat):Int)::its (List.replicate (t.length - (k+1)) 0) from rfl,h2]
 simp [its]
theorem xx {t:List Nd} {k:Nat} (h:k<t.length) (hd:dAt (cg (t.take k)) t[k]=0):jU t k=jU t (k+1):=by
 have e:t.length - k=(t.length - (k+1))+1:=by omega
 unfold jU
 rw [jk h,e,List.replicate_succ,hd]
 simp [its]
theorem DP {t:List Nd}:(List.replicate t.length [AV.int .i64 0]).flatten=jU t 0:=by
 unfold jU
 have:∀ n:Nat,(List.replicate n [AV.int .i64 0]).flatten=its (List.replicate n 0):=fun n=>by
  induction n with
  |zero=>rfl
  |succ n ih=>rw [List.replicate_succ,List.replicate_succ,List.flatten_cons,ih];rfl
 rw [this];simp [cg,its]
theorem sB {a b:Nat}:max (a:Int) (b:Int)=((max a b:Nat):Int):=by omega
def kH:List AV→AHeap→(AV→Prop)→Prop
 |[.slice _ 7 x],_,K=>∃ t,(x=nds t∧Good t∧t.length≤1000)∧K (.int .i64 ((eJ t:Nat):Int))
 |_,_,_=>False
theorem yF:EntOk Tryz.prog 26 (Ent.pure kH):=by
 refine EntOk.pure fun args H K h=>?_
 unfold kH at h
 split at h
 rotate_left
 ·exact h.elim
 rename_i m x
 obtain ⟨t,⟨rfl,hgt,hl⟩,hK⟩:=h
 refine ⟨_,hK,?_⟩
 clear hK
 refine ACalls.fW aF TblOk.nil Tryz.func26 [.tmp 2] (Nat.le_refl _) (T:=aD [(10,[[],[],[],[],[],[],[],[],[],[],[],[],[],[],[],[4,6,9,11]]),(5,[[],[],[],[],[],[],[],[],[],[],[],[],[],[],[4,6,9,11]])]) (h:=fun hcl hlt=>?_)
 have hm:∀ n',H.nx≤n'→AV.lt n' (.slice m 7 (nds t)):=fun n' hn=>AV.lt_mono hn _ (hlt (.slice m 7 (nds t)) (by simp))
 clear hlt
 simp only [go_sem,aG,Int.toNat_natCast,DP]
 refine ⟨by omega,?_⟩
 refine av (A:=Nat) (fun k=>[(0,.slice m 7 (nds t)),(3,.ms H.nx 0 1 t.length),(9,.slice m 7 (nds t)),(10,.int .i64 (t.length:Int)),(11,.int .i64 (k:Int))]) (fun k=>H.push (.cells (jU t k))) (fun k=>k≤t.length) (fun k=>t.length - k) 0 (by omega) ?_ fun k hk=>?_
 ·(simp only [bkq,enterW,aR,ltF,ne_eq,Nat.reduceEqDiff,reduceCtorEq,cX,hm];try simp (disch:=first|assumption|omega|(simp;done)|(simp;omega)|(simp only [bt,and_true];first|done|omega|(simp;done))) [↓zmi,beq,ybc,ybd,ybe,ah,wk,wk2,wk1,wkM,wkL,ap,ybf,byq,biq,ag,hcl,cX,hm];try (repeat' (first|assumption|omega|exact True.intro|refine And.intro ?_ ?_|refine af ?_|refine aa ?_|refine ae ?_ ?_|refine ai ?_ ?_|refine ak ?_|exact AHeap.Le.refl _|refine AHeap.Le.push ?_ _|refine AHeap.Le.del ?_ ?_|(simp only [bt,and_true,true_and,cX,hm];first|done|omega|(simp;done)))))
 have hcl1:∀ k,(H.push (.cells (jU t k))).Closed:=fun k=>ae hcl cX
 simp only [go_sem]
 refine aj (fun hc=>?_) (fun hc=>?_)
 ·have hk1:k<t.length:=by simp at hc;omega
  have e5:IntKind.i64.wrap ((k:Int)+1)=((k+1:Nat):Int):=by rw [wrap_i64]<;>omega
  obtain ⟨g1,g2,g3,g4⟩:=hgt k t[k] (by simp [hk1])
  have hrl:=uk (t:=t) (k:=k) (by omega)
  have hgets:∀ a,a<k→(jU t k).getD a .junk=.int .i64 (((cg (t.take k)).getD a 0:Nat):Int):=fun a ha=>tH (by omega) ha
  have hkn:(H.nx=H.nx+1)=False:=eq_false (by omega)
  have hen:∀ d:Nat,d=dAt (cg (t.take k)) t[k]→splice (jU t k) k [.int .i64 (d:Int)]=jU t (k+1):=fun d hd=>zQ hk1 hd
  have hdl:∀ a,(cg (t.take k)).getD a 0≤k:=fun a=>oG (tk (by omega)) a
  have w1:∀ a,IntKind.i64.wrap (1+(((cg (t.take k)).getD a 0:Nat):Int))=((1+(cg (t.take k)).getD a 0:Nat):Int):=fun a=>by
   have:=hdl a
   rw [wrap_i64]<;>omega
  simp only [go_sem,aG,cK hk1,Int.toNat_natCast,hkn]
  refine ⟨by omega,?_⟩
  refine aj (fun h3=>?_) (fun h3=>?_)
  ·have h3':t[k].op≤3:=by simp at h3;omega
   have hz:dAt (cg (t.take k)) t[k]=0:=by unfold dAt;rw [if_pos h3']
   try simp only [go_sem]
   refine ⟨k+1,by omega,by omega,?_⟩
   rw [← xx hk1 hz]
   (simp only [bkq,enterW,aR,ltF,ne_eq,Nat.reduceEqDiff,reduceCtorEq,cX,hm];try simp (disch:=first|assumption|omega|(simp;done)|(simp;omega)|(simp only [bt,and_true];first|done|omega|(simp;done))) [↓zmi,beq,ybc,ybd,ybe,ah,wk,wk2,wk1,wkM,wkL,ap,ybf,byq,biq,ag,hcl,cX,hm];try (repeat' (first|assumption|omega|exact True.intro|refine And.intro ?_ ?_|refine af ?_|refine aa ?_|refine ae ?_ ?_|refine ai ?_ ?_|refine ak ?_|exact AHeap.Le.refl _|refine AHeap.Le.push ?_ _|refine AHeap.Le.del ?_ ?_|(simp only [bt,and_true,true_and,cX,hm];first|done|omega|(simp;done)))))
  have h3':¬ t[k].op≤3:=by simp at h3;omega
  obtain ⟨ga,gb⟩:t[k].a<k∧t[k].b<k:=g4.resolve_left h3'
  simp only [go_sem,aG,cK hk1,Int.toNat_natCast,hkn]
  refine aj (fun h4=>?_) (fun h4=>?_)
  ·have h4':t[k].op≤5:=by simp at h4;omega
   have hz:1+(cg (t.take k)).getD t[k].a 0=dAt (cg (t.take k)) t[k]:=by unfold dAt;rw [if_neg h3',if_pos h4']
   simp only [go_sem,aG,cK hk1,Int.toNat_natCast,hkn,hrl,hgets _ ga,w1,hen _ hz,e5]
   refine ⟨by omega,by omega,by omega,by omega,k+1,by omega,by omega,?_⟩
   (simp only [bkq,enterW,aR,ltF,ne_eq,Nat.reduceEqDiff,reduceCtorEq,cX,hm];try simp (disch:=first|assumption|omega|(simp;done)|(simp;omega)|(simp only [bt,and_true];first|done|omega|(simp;done))) [↓zmi,beq,ybc,ybd,ybe,ah,wk,wk2,wk1,wkM,wkL,ap,ybf,byq,biq,ag,hcl,cX,hm];try (repeat' (first|assumption|omega|exact True.intro|refine And.intro ?_ ?_|refine af ?_|refine aa ?_|refine ae ?_ ?_|refine ai ?_ ?_|refine ak ?_|exact AHeap.Le.refl _|refine AHeap.Le.push ?_ _|refine AHeap.Le.del ?_ ?_|(simp only [bt,and_true,true_and,cX,hm];first|done|omega|(simp;done)))))
  have h4':¬ t[k].op≤5:=by simp at h4;omega
  simp only [go_sem,aG,cK hk1,Int.toNat_natCast,hkn]
  refine aj (fun h5=>?_) (fun h5=>?_)
  ·have h5':t[k].op=16:=by simp at h5;omega
   have hz:max ((cg (t.take k)).getD t[k].a 0) (1+(cg (t.take k)).getD t[k].b 0)=dAt (cg (t.take k)) t[k]:=by unfold dAt;rw [if_neg h3',if_neg h4',if_pos h5']
   simp only [go_sem,aG,cK hk1,Int.toNat_natCast,hkn,hrl,hgets _ ga,hgets _ gb,w1,sB,hen _ hz,e5]
   refine ⟨by omega,by omega,by omega,by omega,by omega,by omega,k+1,by omega,by omega,?_⟩
   (simp only [bkq,enterW,aR,ltF,ne_eq,Nat.reduceEqDiff,reduceCtorEq,cX,hm];try simp (disch:=first|assumption|omega|(simp;done)|(simp;omega)|(simp only [bt,and_true];first|done|omega|(simp;done))) [↓zmi,beq,ybc,ybd,ybe,ah,wk,wk2,wk1,wkM,wkL,ap,ybf,byq,biq,ag,hcl,cX,hm];try (repeat' (first|assumption|omega|exact True.intro|refine And.intro ?_ ?_|refine af ?_|refine aa ?_|refine ae ?_ ?_|refine ai ?_ ?_|refine ak ?_|exact AHeap.Le.refl _|refine AHeap.Le.push ?_ _|refine AHeap.Le.del ?_ ?_|(simp only [bt,and_true,true_and,cX,hm];first|done|omega|(simp;done)))))
  ·have h5':¬ t[k].op=16:=by simp at h5;omega
   have hz:max ((cg (t.take k)).getD t[k].a 0) ((cg (t.take k)).getD t[k].b 0)=dAt (cg (t.take k)) t[k]:=by unfold dAt;rw [if_neg h3',if_neg h4',if_neg h5']
   simp only [go_sem,aG,cK hk1,Int.toNat_natCast,hkn,hrl,hgets _ ga,hgets _ gb,w1,sB,hen _ hz,e5]
   refine ⟨by omega,by omega,by omega,by omega,by omega,by omega,k+1,by omega,by omega,?_⟩
   (simp only [bkq,enterW,aR,ltF,ne_eq,Nat.reduceEqDiff,reduceCtorEq,cX,hm];try simp (disch:=first|assumption|omega|(simp;done)|(simp;omega)|(simp only [bt,and_true];first|done|omega|(simp;done))) [↓zmi,beq,ybc,ybd,ybe,ah,wk,wk2,wk1,wkM,wkL,ap,ybf,byq,biq,ag,hcl,cX,hm];try (repeat' (first|assumption|omega|exact True.intro|refine And.intro ?_ ?_|refine af ?_|refine aa ?_|refine ae ?_ ?_|refine ai ?_ ?_|refine ak ?_|exact AHeap.Le.refl _|refine AHeap.Le.push ?_ _|refine AHeap.Le.del ?_ ?_|(simp only [bt,and_true,true_and,cX,hm];first|done|omega|(simp;done)))))
 ·have hk1:k=t.length:=by simp at hc;omega
  subst hk1
  have hrl:=uk (t:=t) (Nat.le_refl _)
  have hfull:cg (t.take t.length)=cg t:=by rw [List.take_length]
  by_cases ht0:t=[]
  ·subst ht0
   have hd0:eJ []=0:=rfl
   have d1:(((([]:List Nd).length:Nat):Int)==0)=true:=rfl
   have hcl2:=hcl1 0
   have hkk:((((0:Nat):Int))==0)=true:=rfl
   simp only [go_sem,hd0,yba,aG,zat,hkk]
   simp (disch:=first|assumption|omega|(simp;done)|(simp;omega)|(simp only [bt,and_true];first|done|omega|(simp;done))) [↓zmi,beq,ybc,ybd,ybe,ah,wk,wk2,wk1,wkM,wkL,ap,ybf,hcl,hcl2]
  have htp:=List.length_pos_iff.2 ht0
  have d1:((t.length:Int)==0)=false:=by simp;omega
  have e6:IntKind.i64.wrap ((t.length:Int) - 1)=((t.length - 1:Nat):Int):=by rw [wrap_i64]<;>omega
  have hge:=tH (t:=t) (Nat.le_refl _) (show t.length - 1<t.length by omega)
  rw [hfull,show (cg t).getD (t.length - 1) 0=eJ t from rfl] at hge
  simp only [go_sem,aG,d1,e6,hrl,hge,Int.toNat_natCast]
  refine ⟨by omega,by omega,?_⟩
  simp (disch:=first|assumption|omega|(simp;done)|(simp;omega)|(simp only [bt,and_true];first|done|omega|(simp;done))) [↓zmi,beq,ybc,ybd,ybe,ah,wk,wk2,wk1,wkM,wkL,ap,ybf,hcl,hcl1]
end Go.AL
open Go Go.AL Go.Proofs
namespace Go.AL
set_option linter.all false
set_option maxRecDepth 10000
def p9:List AV→AHeap→(AV→Prop)→Prop
 |[.slice _ 7 x],_,K=>∃ t,(x=nds t∧Good t∧t.length≤1000)∧K (.int .i64 ((eJ t:Nat):Int))
 |_,_,_=>False
theorem y3:EntOk Tryz.prog 25 (Ent.pure p9):=by
 refine EntOk.pure fun args H K h=>?_
 unfold p9 at h
 split at h
 rotate_left
 ·exact h.elim
 rename_i m x
 obtain ⟨t,⟨rfl,hgt,hl⟩,hK⟩:=h
 refine ⟨_,hK,?_⟩
 clear hK
 refine ACalls.fW aF (TblOk.cons uj TblOk.nil) Tryz.func25 [.tmp 2] (Nat.le_refl _) (T:=aD [(7,[[],[],[],[],[2],[],[],[],[],[2,4,7]])]) (h:=fun hcl hlt=>?_)
 have hm:∀ n',H.nx≤n'→AV.lt n' (.slice m 7 (nds t)):=fun n' hn=>AV.lt_mono hn _ (hlt (.slice m 7 (nds t)) (by simp))
 clear hlt
 by_cases ht0:t=[]
 ·subst ht0
  have hd0:eJ []=0:=rfl
  have hkk:((((0:Nat):Int))==0)=true:=rfl
  simp only [go_sem,hd0,yba,aG,zat,hkk]
  simp (disch:=first|assumption|omega|(simp;done)|(simp;omega)|(simp only [bt,and_true];first|done|omega|(simp;done))) [↓zmi,beq,ybc,ybd,ybe,ah,wk,wk2,wk1,wkM,wkL,ap,ybf,hcl]
 have htp:=List.length_pos_iff.2 ht0
 have d1:((t.length:Int)==0)=false:=by simp;omega
 simp only [go_sem,aG,Int.toNat_natCast,d1]
 refine av (A:=Nat) (fun k=>[(3,.slice (.own H.nx) 1 (its (cg (t.take k)))),(11,.slice m 7 (nds t)),(12,.int .i64 (t.length:Int)),(13,.int .i64 (k:Int))]) (fun k=>H.push (.buf 1 k)) (fun k=>k≤t.length) (fun k=>t.length - k) 0 (by omega) ?_ fun k hk=>?_
 ·have e0:its (cg (t.take 0))=[]:=rfl
  (simp only [bkq,enterW,aR,ltF,ne_eq,Nat.reduceEqDiff,reduceCtorEq,hm,e0];try simp (disch:=first|assumption|omega|(simp;done)|(simp;omega)|(simp only [bt,and_true];first|done|omega|(simp;done))) [↓zmi,beq,ybc,ybd,ybe,ah,wk,wk2,wk1,wkM,wkL,ap,ybf,byq,biq,ag,hcl,hm,e0];try (repeat' (first|assumption|omega|exact True.intro|refine And.intro ?_ ?_|refine af ?_|refine aa ?_|refine ae ?_ ?_|refine ai ?_ ?_|refine ak ?_|exact AHeap.Le.refl _|refine AHeap.Le.push ?_ _|refine AHeap.Le.del ?_ ?_|(simp only [bt,and_true,true_and,hm,e0];first|done|omega|(simp;done)))))
 have hcl1:∀ k,(H.push (.buf 1 k)).Closed:=fun k=>af hcl
 have hil:(its (cg (t.take k))).length=k:=by rw [eN,cw hk]
 simp only [go_sem]
 refine aj (fun hc=>?_) (fun hc=>?_)
 ·have hk1:k<t.length:=by simp at hc;omega
  have e5:IntKind.i64.wrap ((k:Int)+1)=((k+1:Nat):Int):=by rw [wrap_i64]<;>omega
  obtain ⟨g1,g2,g3,g4⟩:=hgt k t[k] (by simp [hk1])
  have hkn:(H.nx=H.nx+1)=False:=eq_false (by omega)
  have hdl:∀ a,(cg (t.take k)).getD a 0≤k:=fun a=>oG (tk (by omega)) a
  have w1:∀ a,IntKind.i64.wrap ((((cg (t.take k)).getD a 0:Nat):Int)+1)=((1+(cg (t.take k)).getD a 0:Nat):Int):=fun a=>by
   have:=hdl a
   rw [wrap_i64]<;>omega
  simp only [go_sem,aG,cK hk1,Int.toNat_natCast,hkn,mv]
  refine ⟨by omega,cg (t.take k),⟨rfl,by omega,by rw [cw hk],by rw [cw hk];omega⟩,cg (t.take k),⟨rfl,by omega,by rw [cw hk],by rw [cw hk];omega⟩,?_⟩
  have hsn:∀ d:Nat,d=dAt (cg (t.take k)) t[k]→its (cg (t.take k))++[AV.int .i64 (d:Int)]=its (cg (t.take (k+1))):=fun d hd=>by rw [jk hk1,← hd,Br]
  have hsz:dAt (cg (t.take k)) t[k]=0→its (cg (t.take k))++[AV.int .i64 0]=its (cg (t.take (k+1))):=fun hd=>hsn 0 hd.symm
  have hb:=hdl t[k].a
  generalize hop:t[k].op=op at g1 g2 g4
  rcases (by omega:op=1∨op=2∨op=3∨op=4∨op=5∨op=16∨(6≤op∧op≤15)) with ho|ho|ho|ho|ho|ho|ho
  ·subst ho
   have b1:((((1:Nat):Int))==1)=true:=rfl
   have b2:((((1:Nat):Int))==2)=false:=rfl
   have b3:((((1:Nat):Int))==3)=false:=rfl
   have b4:((((1:Nat):Int))==4)=false:=rfl
   have b5:((((1:Nat):Int))==5)=false:=rfl
   have b16:((((1:Nat):Int))==16)=false:=rfl
   have hv:0=dAt (cg (t.take k)) t[k]:=by unfold dAt;rw [if_pos (by omega)]
   simp only [go_sem,aG,Int.toNat_natCast,hkn,hop,zat,zau,b1,b2,b3,b4,b5,b16,hil,w1,sB,e5,hsz hv.symm]
   refine ⟨⟨by omega,by omega,by simp [bg,AV.cells,AV.one]⟩,k+1,by omega,by omega,?_⟩
   (simp only [bkq,enterW,aR,ltF,ne_eq,Nat.reduceEqDiff,reduceCtorEq,hm,cq];try simp (disch:=first|assumption|omega|(simp;done)|(simp;omega)|(simp only [bt,and_true];first|done|omega|(simp;done))) [↓zmi,beq,ybc,ybd,ybe,ah,wk,wk2,wk1,wkM,wkL,ap,ybf,byq,biq,ag,hcl,hm,cq];try (repeat' (first|assumption|omega|exact True.intro|refine And.intro ?_ ?_|refine af ?_|refine aa ?_|refine ae ?_ ?_|refine ai ?_ ?_|refine ak ?_|exact AHeap.Le.refl _|refine AHeap.Le.push ?_ _|refine AHeap.Le.del ?_ ?_|(simp only [bt,and_true,true_and,hm,cq];first|done|omega|(simp;done)))))
  ·subst ho
   have b1:((((2:Nat):Int))==1)=false:=rfl
   have b2:((((2:Nat):Int))==2)=true:=rfl
   have b3:((((2:Nat):Int))==3)=false:=rfl
   have b4:((((2:Nat):Int))==4)=false:=rfl
   have b5:((((2:Nat):Int))==5)=false:=rfl
   have b16:((((2:Nat):Int))==16)=false:=rfl
   have hv:0=dAt (cg (t.take k)) t[k]:=by unfold dAt;rw [if_pos (by omega)]
   simp only [go_sem,aG,Int.toNat_natCast,hkn,hop,zat,zau,b1,b2,b3,b4,b5,b16,hil,w1,sB,e5,hsz hv.symm]
   refine ⟨⟨by omega,by omega,by simp [bg,AV.cells,AV.one]⟩,k+1,by omega,by omega,?_⟩
   (simp only [bkq,enterW,aR,ltF,ne_eq,Nat.reduceEqDiff,reduceCtorEq,hm,cq];try simp (disch:=first|assumption|omega|(simp;done)|(simp;omega)|(simp only [bt,and_true];first|done|omega|(simp;done))) [↓zmi,beq,ybc,ybd,ybe,ah,wk,wk2,wk1,wkM,wkL,ap,ybf,byq,biq,ag,hcl,hm,cq];try (repeat' (first|assumption|omega|exact True.intro|refine And.intro ?_ ?_|refine af ?_|refine aa ?_|refine ae ?_ ?_|refine ai ?_ ?_|refine ak ?_|exact AHeap.Le.refl _|refine AHeap.Le.push ?_ _|refine AHeap.Le.del ?_ ?_|(simp only [bt,and_true,true_and,hm,cq];first|done|omega|(simp;done)))))
  ·subst ho
   have b1:((((3:Nat):Int))==1)=false:=rfl
   have b2:((((3:Nat):Int))==2)=false:=rfl
   have b3:((((3:Nat):Int))==3)=true:=rfl
   have b4:((((3:Nat):Int))==4)=false:=rfl
   have b5:((((3:Nat):Int))==5)=false:=rfl
   have b16:((((3:Nat):Int))==16)=false:=rfl
   have hv:0=dAt (cg (t.take k)) t[k]:=by unfold dAt;rw [if_pos (by omega)]
   simp only [go_sem,aG,Int.toNat_natCast,hkn,hop,zat,zau,b1,b2,b3,b4,b5,b16,hil,w1,sB,e5,hsz hv.symm]
   refine ⟨⟨by omega,by omega,by simp [bg,AV.cells,AV.one]⟩,k+1,by omega,by omega,?_⟩
   (simp only [bkq,enterW,aR,ltF,ne_eq,Nat.reduceEqDiff,reduceCtorEq,hm,cq];try simp (disch:=first|assumption|omega|(simp;done)|(simp;omega)|(simp only [bt,and_true];first|done|omega|(simp;done))) [↓zmi,beq,ybc,ybd,ybe,ah,wk,wk2,wk1,wkM,wkL,ap,ybf,byq,biq,ag,hcl,hm,cq];try (repeat' (first|assumption|omega|exact True.intro|refine And.intro ?_ ?_|refine af ?_|refine aa ?_|refine ae ?_ ?_|refine ai ?_ ?_|refine ak ?_|exact AHeap.Le.refl _|refine AHeap.Le.push ?_ _|refine AHeap.Le.del ?_ ?_|(simp only [bt,and_true,true_and,hm,cq];first|done|omega|(simp;done)))))
  ·subst ho
   have b1:((((4:Nat):Int))==1)=false:=rfl
   have b2:((((4:Nat):Int))==2)=false:=rfl
   have b3:((((4:Nat):Int))==3)=false:=rfl
   have b4:((((4:Nat):Int))==4)=true:=rfl
   have b5:((((4:Nat):Int))==5)=false:=rfl
   have b16:((((4:Nat):Int))==16)=false:=rfl
   have hv:1+(cg (t.take k)).getD t[k].a 0=dAt (cg (t.take k)) t[k]:=by unfold dAt;rw [if_neg (by omega),if_pos (by omega)]
   simp only [go_sem,aG,Int.toNat_natCast,hkn,hop,zat,zau,b1,b2,b3,b4,b5,b16,hil,w1,sB,e5,hsn _ hv]
   refine ⟨⟨by omega,by omega,by simp [bg,AV.cells,AV.one]⟩,k+1,by omega,by omega,?_⟩
   (simp only [bkq,enterW,aR,ltF,ne_eq,Nat.reduceEqDiff,reduceCtorEq,hm,cq];try simp (disch:=first|assumption|omega|(simp;done)|(simp;omega)|(simp only [bt,and_true];first|done|omega|(simp;done))) [↓zmi,beq,ybc,ybd,ybe,ah,wk,wk2,wk1,wkM,wkL,ap,ybf,byq,biq,ag,hcl,hm,cq];try (repeat' (first|assumption|omega|exact True.intro|refine And.intro ?_ ?_|refine af ?_|refine aa ?_|refine ae ?_ ?_|refine ai ?_ ?_|refine ak ?_|exact AHeap.Le.refl _|refine AHeap.Le.push ?_ _|refine AHeap.Le.del ?_ ?_|(simp only [bt,and_true,true_and,hm,cq];first|done|omega|(simp;done)))))
  ·subst ho
   have b1:((((5:Nat):Int))==1)=false:=rfl
   have b2:((((5:Nat):Int))==2)=false:=rfl
   have b3:((((5:Nat):Int))==3)=false:=rfl
   have b4:((((5:Nat):Int))==4)=false:=rfl
   have b5:((((5:Nat):Int))==5)=true:=rfl
   have b16:((((5:Nat):Int))==16)=false:=rfl
   have hv:1+(cg (t.take k)).getD t[k].a 0=dAt (cg (t.take k)) t[k]:=by unfold dAt;rw [if_neg (by omega),if_pos (by omega)]
   simp only [go_sem,aG,Int.toNat_natCast,hkn,hop,zat,zau,b1,b2,b3,b4,b5,b16,hil,w1,sB,e5,hsn _ hv]
   refine ⟨⟨by omega,by omega,by simp [bg,AV.cells,AV.one]⟩,k+1,by omega,by omega,?_⟩
   (simp only [bkq,enterW,aR,ltF,ne_eq,Nat.reduceEqDiff,reduceCtorEq,hm,cq];try simp (disch:=first|assumption|omega|(simp;done)|(simp;omega)|(simp only [bt,and_true];first|done|omega|(simp;done))) [↓zmi,beq,ybc,ybd,ybe,ah,wk,wk2,wk1,wkM,wkL,ap,ybf,byq,biq,ag,hcl,hm,cq];try (repeat' (first|assumption|omega|exact True.intro|refine And.intro ?_ ?_|refine af ?_|refine aa ?_|refine ae ?_ ?_|refine ai ?_ ?_|refine ak ?_|exact AHeap.Le.refl _|refine AHeap.Le.push ?_ _|refine AHeap.Le.del ?_ ?_|(simp only [bt,and_true,true_and,hm,cq];first|done|omega|(simp;done)))))
  ·subst ho
   have b1:((((16:Nat):Int))==1)=false:=rfl
   have b2:((((16:Nat):Int))==2)=false:=rfl
   have b3:((((16:Nat):Int))==3)=false:=rfl
   have b4:((((16:Nat):Int))==4)=false:=rfl
   have b5:((((16:Nat):Int))==5)=false:=rfl
   have b16:((((16:Nat):Int))==16)=true:=rfl
   have hv:max ((cg (t.take k)).getD t[k].a 0) (1+(cg (t.take k)).getD t[k].b 0)=dAt (cg (t.take k)) t[k]:=by unfold dAt;rw [if_neg (by omega),if_neg (by omega),if_pos (by omega)]
   simp only [go_sem,aG,Int.toNat_natCast,hkn,hop,zat,zau,b1,b2,b3,b4,b5,b16,hil,w1,sB,e5,hsn _ hv]
   refine ⟨⟨by omega,by omega,by simp [bg,AV.cells,AV.one]⟩,k+1,by omega,by omega,?_⟩
   (simp only [bkq,enterW,aR,ltF,ne_eq,Nat.reduceEqDiff,reduceCtorEq,hm,cq];try simp (disch:=first|assumption|omega|(simp;done)|(simp;omega)|(simp only [bt,and_true];first|done|omega|(simp;done))) [↓zmi,beq,ybc,ybd,ybe,ah,wk,wk2,wk1,wkM,wkL,ap,ybf,byq,biq,ag,hcl,hm,cq];try (repeat' (first|assumption|omega|exact True.intro|refine And.intro ?_ ?_|refine af ?_|refine aa ?_|refine ae ?_ ?_|refine ai ?_ ?_|refine ak ?_|exact AHeap.Le.refl _|refine AHeap.Le.push ?_ _|refine AHeap.Le.del ?_ ?_|(simp only [bt,and_true,true_and,hm,cq];first|done|omega|(simp;done)))))
  ·have b1:((op:Int)==1)=false:=by simp;omega
   have b2:((op:Int)==2)=false:=by simp;omega
   have b3:((op:Int)==3)=false:=by simp;omega
   have b4:((op:Int)==4)=false:=by simp;omega
   have b5:((op:Int)==5)=false:=by simp;omega
   have b16:((op:Int)==16)=false:=by simp;omega
   have hv:max ((cg (t.take k)).getD t[k].a 0) ((cg (t.take k)).getD t[k].b 0)=dAt (cg (t.take k)) t[k]:=by unfold dAt;rw [if_neg (by omega),if_neg (by omega),if_neg (by omega)]
   simp only [go_sem,aG,Int.toNat_natCast,hkn,hop,zat,zau,b1,b2,b3,b4,b5,b16,hil,w1,sB,e5,hsn _ hv]
   refine ⟨⟨by omega,by omega,by simp [bg,AV.cells,AV.one]⟩,k+1,by omega,by omega,?_⟩
   (simp only [bkq,enterW,aR,ltF,ne_eq,Nat.reduceEqDiff,reduceCtorEq,hm,cq];try simp (disch:=first|assumption|omega|(simp;done)|(simp;omega)|(simp only [bt,and_true];first|done|omega|(simp;done))) [↓zmi,beq,ybc,ybd,ybe,ah,wk,wk2,wk1,wkM,wkL,ap,ybf,byq,biq,ag,hcl,hm,cq];try (repeat' (first|assumption|omega|exact True.intro|refine And.intro ?_ ?_|refine af ?_|refine aa ?_|refine ae ?_ ?_|refine ai ?_ ?_|refine ak ?_|exact AHeap.Le.refl _|refine AHeap.Le.push ?_ _|refine AHeap.Le.del ?_ ?_|(simp only [bt,and_true,true_and,hm,cq];first|done|omega|(simp;done)))))
 ·have hk1:k=t.length:=by simp at hc;omega
  subst hk1
  have e6:IntKind.i64.wrap ((t.length:Int) - 1)=((t.length - 1:Nat):Int):=by rw [wrap_i64]<;>omega
  have hge:=sH (d:=cg t) (a:=t.length - 1) (by rw [Ab];omega)
  rw [show (cg t).getD (t.length - 1) 0=eJ t from rfl] at hge
  rw [List.take_length] at hil
  simp only [go_sem,aG,List.take_length,hil,e6,hge,Int.toNat_natCast]
  refine ⟨by omega,?_⟩
  simp (disch:=first|assumption|omega|(simp;done)|(simp;omega)|(simp only [bt,and_true];first|done|omega|(simp;done))) [↓zmi,beq,ybc,ybd,ybe,ah,wk,wk2,wk1,wkM,wkL,ap,ybf,hcl,hcl1]
end Go.AL
open Go Go.AL Go.Proofs
namespace Go.AL
set_option linter.all false
set_option maxRecDepth 10000
theorem eQ {A:Prop} {g:FuncId} {rl:Rl}:EntOk Tryz.prog g (Ent.some (aI A rl 0)):=by
 refine EntOk.some fun args H K h=>?_
 unfold aI at h
 split at h
 ·obtain ⟨m,l,p,b,tb,t,hg,hpre,hK⟩:=h
  exact hK.elim
 ·exact h.elim
structure RulesR (A:Prop) (f:Nat):Prop where
 imp:EntOk Tryz.prog 204 (Ent.some (eU A f))
 or:EntOk Tryz.prog 260 (Ent.some (lB A f))
 and:EntOk Tryz.prog 291 (Ent.some (iV A f))
 not:EntOk Tryz.prog 303 (Ent.some (fy A f))
 cmp:EntOk Tryz.prog 309 (Ent.some (me A f))
 sum:EntOk Tryz.prog 313 (Ent.some (i5 A f))
 un:EntOk Tryz.prog 316 (Ent.some (gN A f))
 atom:EntOk Tryz.prog 318 (Ent.some (jN A f))
theorem rV {A:Prop} (hV:∀ f,EntOk Tryz.prog 320 (Ent.some (kM A f))):∀ f,RulesR A f
 |0=>⟨eQ,eQ,eQ,eQ,eQ,eQ,eQ,eQ⟩
 |f+1=>have h:=rV hV f
  ⟨CW h.or h.imp,DQ h.and,Cv h.not,Co h.not h.cmp,BM h.sum,CX h.un,DK h.un h.atom,AP (hV f) h.imp⟩
def mO (t:List Nd):Bool:=decide (120<t.length)||decide (12<eJ t)
def fU (l:List Tok):PR→AV
 |.ok _ p t=>if p<l.length then .tup [.slice .any 7 [],.int .i64 (p:Int),.int .i64 10] else if mO t=true then .tup [.slice .any 7 [],.int .i64 0,.int .i64 11] else .tup [.slice .any 7 (nds t),.int .i64 0,.int .i64 0]
 |.bad p=>.tup [.slice .any 7 [],.int .i64 (p:Int),.int .i64 10]
def ql (A:Prop) (_g:Nat):List AV→AHeap→(AV→AHeap→Prop)→Prop
 |[.slice _ 3 x],H,K=>∃ l f r,(x=cm l∧run l f .imp 0 []=some r∧l.length≤1000∧lK l∧xr A l)∧K (fU l r) H
 |_,_,_=>False
def pB:List AV→AHeap→(AV→Prop)→Prop
 |[.slice _ 3 x],H,K=>∃ l f r,(x=cm l∧run l f .imp 0 []=some r∧l.length≤1000∧lK l)∧K (fU l r)
 |_,_,_=>False
theorem yG:EntOk Tryz.prog 28 (Ent.pure pB):=by
 refine EntOk.pure fun args H K h=>?_
 unfold pB at h
 split at h
 rotate_left
 ·exact h.elim
 rename_i m x
 obtain ⟨l,f,r,⟨rfl,hr,hl,hgl⟩,hK⟩:=h
 refine ⟨_,hK,?_⟩
 clear hK
 have hw:=aQ f hr Good.nil trivial (Nat.zero_le _)
 refine ACalls.fW aF (TblOk.cons zf (TblOk.cons y3 TblOk.nil)) Tryz.func28 [.tmp 2,.tmp 3,.tmp 4] (Nat.le_refl _) (T:=aD []) (h:=fun hcl hlt=>?_)
 clear hlt
 simp only [go_sem,tx]
 refine ⟨l,f,r,⟨rfl,hr,hl,hgl⟩,?_⟩
 cases r with
 |bad q =>
  simp only [go_sem,nI,fU]
  simp (disch:=first|assumption|omega|(simp;done)|(simp;omega)|(simp only [bt,and_true];first|done|omega|(simp;done))) [↓zmi,beq,ybc,ybd,ybe,ah,wk,wk2,wk1,wkM,wkL,ap,ybf,hcl,fT]
 |ok a p t =>
  obtain ⟨k1,k2,k3,k4,k5,k6⟩:=hw
  simp only [nI,fU]
  by_cases hp:p<l.length
  ·simp only [if_pos hp,go_sem]
   simp (disch:=first|assumption|omega|(simp;done)|(simp;omega)|(simp only [bt,and_true];first|done|omega|(simp;done))) [↓zmi,beq,ybc,ybd,ybe,ah,wk,wk2,wk1,wkM,wkL,ap,ybf,hcl,fT]
  ·have ht:t.length≤1000:=by simp at k3;omega
   simp only [if_neg hp,go_sem,aG]
   by_cases h1:120<t.length
   ·have hb:mO t=true:=by unfold mO;simp [h1]
    have d1:decide ((t.length:Int) > 120)=true:=by simp;omega
    rw [if_pos hb]
    simp only [d1,go_sem]
    simp (disch:=first|assumption|omega|(simp;done)|(simp;omega)|(simp only [bt,and_true];first|done|omega|(simp;done))) [↓zmi,beq,ybc,ybd,ybe,ah,wk,wk2,wk1,wkM,wkL,ap,ybf,hcl,fT]
   ·have d1:decide ((t.length:Int) > 120)=false:=by simp;omega
    simp only [d1,go_sem,p9]
    refine ⟨t,⟨rfl,k5,ht⟩,?_⟩
    by_cases h2:12<eJ t
    ·have hb:mO t=true:=by unfold mO;simp [h2]
     have d2:decide (((eJ t:Nat):Int) > 12)=true:=by simp;omega
     rw [if_pos hb]
     simp only [d2,go_sem]
     simp (disch:=first|assumption|omega|(simp;done)|(simp;omega)|(simp only [bt,and_true];first|done|omega|(simp;done))) [↓zmi,beq,ybc,ybd,ybe,ah,wk,wk2,wk1,wkM,wkL,ap,ybf,hcl,fT]
    ·have hb:¬ mO t=true:=by unfold mO;simp;omega
     have d2:decide (((eJ t:Nat):Int) > 12)=false:=by simp;omega
     rw [if_neg hb]
     simp only [d2,go_sem]
     simp (disch:=first|assumption|omega|(simp;done)|(simp;omega)|(simp only [bt,and_true];first|done|omega|(simp;done))) [↓zmi,beq,ybc,ybd,ybe,ah,wk,wk2,wk1,wkM,wkL,ap,ybf,hcl,gQ]
end Go.AL
