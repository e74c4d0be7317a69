/- Contracts and plain laws, a part of the proof; no condition of its own. -/
import Derived.Test.YtiiiljghmilepaaS07u
import Derived.Test.YtiiiljghmilepaaS07d
import Derived.Test.YtiiiljghmilepaaLSyn2
set_option maxHeartbeats 32000000
open List renaming map_cons → yae, length_cons → yaz, length_nil → yba, take_of_length_le → ybc, drop_append → ybd, take_append → ybe, drop_eq_nil_of_le → ybf, cons_append → yal
open Go Go.AL Go.Proofs
namespace Go.AL
set_option linter.all false
set_option maxRecDepth 10000
def its (d:List Nat):List AV:=d.map fun (n:Nat)=>.int .i64 (n:Int)
theorem du {d:List Nat}:(its d).length=d.length:=by simp [its]
theorem pA {d:List Nat} {a:Nat} (h:a<d.length):(its d).getD a .junk=.int .i64 ((d.getD a 0:Nat):Int):=by
 simp [its,List.getD_eq_getElem?_getD,h]
theorem xN {d:List Nat} {n:Nat}:its d++[.int .i64 (n:Int)]=its (d++[n]):=by simp [its]
theorem zn {n:Nat} {d:List Nat}:ltL n (its d):=by
 induction d with
 |nil=>simp [its,znp]
 |cons a d ih=>simp only [its,yae,zno,zmz,true_and];exact ih
theorem bU {n:Nat} {m:Mark} {d:List Nat}:AV.lt n (.slice m 1 (its d))=∀ id,m=.own id→id<n:=by
 rw [AV.lt]
 refine propext ⟨fun h=>h.1,fun h=>⟨h,fun j hj=>?_⟩⟩
 simp only [its,List.getElem_map]
 simp [zmz]
theorem bZ {t:List Nd} {k:Nat} (h:k<t.length):(nds t).getD k .junk=.agg [.int .i64 (t[k].op:Int),.int .i64 (t[k].a:Int),.int .i64 (t[k].b:Int),.str t[k].name,.str t[k].attr,.int .u64 ((t[k].v/2^64:Nat):Int),.int .u64 ((t[k].v % 2^64:Nat):Int)]:=by
 simp [nds,ik,List.getD_eq_getElem?_getD,h]
def jZ:List AV→AHeap→(AV→Prop)→Prop
 |[.slice _ 1 x,.int .i64 a,.int .i64 i],_,K=>∃ d,(x=its d∧0≤a∧i=(d.length:Int)∧d.length≤100000)∧K (.int .i64 ((d.getD a.toNat 0:Nat):Int))
 |_,_,_=>False
theorem qE:EntOk Try.prog 69 (Ent.pure jZ):=by
 refine EntOk.pure fun args H K h=>?_
 unfold jZ at h
 split at h
 rotate_left
 ·exact h.elim
 rename_i m x a i
 obtain ⟨d,⟨rfl,h1,rfl,hd⟩,hK⟩:=h
 refine ⟨_,hK,?_⟩
 clear hK
 obtain ⟨a,rfl⟩:=bQ h1
 simp only [Int.toNat_natCast]
 refine ACalls.fW aI TblOk.nil Try.func69 [.tmp 6] (Nat.le_refl _) (T:=aA []) (h:=fun hcl hlt=>?_)
 clear hlt
 have d1:decide ((a:Int)<0)=false:=by simp
 by_cases ha:a<d.length
 ·have d2:decide ((a:Int) ≥ (d.length:Int))=false:=by simp;omega
  simp only [go_sem,du,d1,d2,pA ha,Int.toNat_natCast]
  refine ⟨by omega,?_⟩
  simp (disch:=first|assumption|omega|(simp;done)|(simp;omega)|(simp only [bt,and_true];first|done|omega|(simp;done))) [↓zmi,beq,ybc,ybd,ybe,ag,wk,wk2,wk1,wkM,wkL,am,ybf,hcl]
 ·have d2:decide ((a:Int) ≥ (d.length:Int))=true:=by simp;omega
  have e:d.getD a 0=0:=by rw [List.getD_eq_getElem?_getD,List.getElem?_eq_none (by omega)];rfl
  simp only [go_sem,du,d1,d2,e]
  simp (disch:=first|assumption|omega|(simp;done)|(simp;omega)|(simp only [bt,and_true];first|done|omega|(simp;done))) [↓zmi,beq,ybc,ybd,ybe,ag,wk,wk2,wk1,wkM,wkL,am,ybf,hcl]
def hJ (t:List Nd) (k:Nat):List AV:=its (bM (t.take k))++its (List.replicate (t.length - k) 0)
theorem rC {t:List Nd} {k:Nat} (h:k≤t.length):(hJ t k).length=t.length:=by
 simp only [hJ,List.length_append,du,bW h,List.length_replicate];omega
theorem cp {n:Nat} {t:List Nd} {k:Nat}:ltL n (hJ t k):=by
 unfold hJ its
 rw [← List.map_append]
 exact zn
theorem rF {t:List Nd} {k a:Nat} (h:k≤t.length) (ha:a<k):(hJ t k).getD a .junk=.int .i64 (((bM (t.take k)).getD a 0:Nat):Int):=by
 have h1:a<(bM (t.take k)).length:=by rw [bW h];exact ha
 rw [List.getD_eq_getElem?_getD,hJ,List.getElem?_append_left (by rw [du];exact h1)]
 simp [its,List.getD_eq_getElem?_getD,h1]
theorem oF:∀ (A:List AV) (x v:AV) (B:List AV),splice (A++x::B) A.length [v]=A++v::B
 |[],x,v,B=>by cases B<;>rfl
 |c::A,x,v,B=>by
  have:=oF A x v B
  simp only [yal,yaz,splice]
  rw [this]
theorem vK {t:List Nd} {k d:Nat} (h:k<t.length) (hd:d=dAt (bM (t.take k)) t[k]):splice (hJ t k) k [.int .i64 (d:Int)]=hJ t (k+1):=by
 have hl:(its (bM (t.take k))).length=k:=by rw [du,bW (by omega)]
 have e:t.length - k=(t.length - (k+1))+1:=by omega
 unfold hJ
 rw [gU h,e,List.replicate_succ,← hd]
 have h2:=oF (its (bM (t.take k))) (.int .i64 ((0:Nat):Int)) (.int .i64 (d:Int)) (its (List.replicate (t.length - (k+1)) 0))
 rw [hl] at h2
 rw [show its (0::List.replicate (t.length - (k+1)) 0)=.int .i64 ((0:Nat):Int)::its (List.replicate (t.length - (k+1)) 0) from rfl,h2]
 simp [its]
theorem ut {t:List Nd} {k:Nat} (h:k<t.length) (hd:dAt (bM (t.take k)) t[k]=0):hJ t k=hJ t (k+1):=by
 have e:t.length - k=(t.length - (k+1))+1:=by omega
 unfold hJ
 rw [gU h,e,List.replicate_succ,hd]
 simp [its]
theorem zZ {t:List Nd}:(List.replicate t.length [AV.int .i64 0]).flatten=hJ t 0:=by
 unfold hJ
 have:∀ n:Nat,(List.replicate n [AV.int .i64 0]).flatten=its (List.replicate n 0):=fun n=>by
  induction n with
  |zero=>rfl
  |succ n ih=>rw [List.replicate_succ,List.replicate_succ,List.flatten_cons,ih];rfl
 rw [this];simp [bM,its]
theorem pi {a b:Nat}:max (a:Int) (b:Int)=((max a b:Nat):Int):=by omega
def i6:List AV→AHeap→(AV→Prop)→Prop
 |[.slice _ 7 x],_,K=>∃ t,(x=nds t∧Good t∧t.length≤1000)∧K (.int .i64 ((dl t:Nat):Int))
 |_,_,_=>False
theorem uA:EntOk Try.prog 41 (Ent.pure i6):=by
 refine EntOk.pure fun args H K h=>?_
 unfold i6 at h
 split at h
 rotate_left
 ·exact h.elim
 rename_i m x
 obtain ⟨t,⟨rfl,hgt,hl⟩,hK⟩:=h
 refine ⟨_,hK,?_⟩
 clear hK
 refine ACalls.fW aI TblOk.nil Try.func41 [.tmp 2] (Nat.le_refl _) (T:=aA [(10,[[],[],[],[],[],[],[],[],[],[],[],[],[],[],[],[4,6,9,11]]),(5,[[],[],[],[],[],[],[],[],[],[],[],[],[],[],[4,6,9,11]])]) (h:=fun hcl hlt=>?_)
 have hm:∀ n',H.nx≤n'→AV.lt n' (.slice m 7 (nds t)):=fun n' hn=>AV.lt_mono hn _ (hlt (.slice m 7 (nds t)) (by simp))
 clear hlt
 simp only [go_sem,aD,Int.toNat_natCast,zZ]
 refine ⟨by omega,?_⟩
 refine ax (A:=Nat) (fun k=>[(0,.slice m 7 (nds t)),(3,.ms H.nx 0 1 t.length),(9,.slice m 7 (nds t)),(10,.int .i64 (t.length:Int)),(11,.int .i64 (k:Int))]) (fun k=>H.push (.cells (hJ t k))) (fun k=>k≤t.length) (fun k=>t.length - k) 0 (by omega) ?_ fun k hk=>?_
 ·(simp only [bkq,enterW,aR,ltF,ne_eq,Nat.reduceEqDiff,reduceCtorEq,cp,hm];try simp (disch:=first|assumption|omega|(simp;done)|(simp;omega)|(simp only [bt,and_true];first|done|omega|(simp;done))) [↓zmi,beq,ybc,ybd,ybe,ag,wk,wk2,wk1,wkM,wkL,am,ybf,byq,biq,ae,hcl,cp,hm];try (repeat' (first|assumption|omega|exact True.intro|refine And.intro ?_ ?_|refine af ?_|refine aa ?_|refine ac ?_ ?_|refine ah ?_ ?_|refine aj ?_|exact AHeap.Le.refl _|refine AHeap.Le.push ?_ _|refine AHeap.Le.del ?_ ?_|(simp only [bt,and_true,true_and,cp,hm];first|done|omega|(simp;done)))))
 have hcl1:∀ k,(H.push (.cells (hJ t k))).Closed:=fun k=>ac hcl cp
 simp only [go_sem]
 refine ak (fun hc=>?_) (fun hc=>?_)
 ·have hk1:k<t.length:=by simp at hc;omega
  have e5:IntKind.i64.wrap ((k:Int)+1)=((k+1:Nat):Int):=by rw [wrap_i64]<;>omega
  obtain ⟨g1,g2,g3,g4⟩:=hgt k t[k] (by simp [hk1])
  have hrl:=rC (t:=t) (k:=k) (by omega)
  have hgets:∀ a,a<k→(hJ t k).getD a .junk=.int .i64 (((bM (t.take k)).getD a 0:Nat):Int):=fun a ha=>rF (by omega) ha
  have hkn:(H.nx=H.nx+1)=False:=eq_false (by omega)
  have hen:∀ d:Nat,d=dAt (bM (t.take k)) t[k]→splice (hJ t k) k [.int .i64 (d:Int)]=hJ t (k+1):=fun d hd=>vK hk1 hd
  have hdl:∀ a,(bM (t.take k)).getD a 0≤k:=fun a=>l5 (qg (by omega)) a
  have w1:∀ a,IntKind.i64.wrap (1+(((bM (t.take k)).getD a 0:Nat):Int))=((1+(bM (t.take k)).getD a 0:Nat):Int):=fun a=>by
   have:=hdl a
   rw [wrap_i64]<;>omega
  simp only [go_sem,aD,bZ hk1,Int.toNat_natCast,hkn]
  refine ⟨by omega,?_⟩
  refine ak (fun h3=>?_) (fun h3=>?_)
  ·have h3':t[k].op≤3:=by simp at h3;omega
   have hz:dAt (bM (t.take k)) t[k]=0:=by unfold dAt;rw [if_pos h3']
   try simp only [go_sem]
   refine ⟨k+1,by omega,by omega,?_⟩
   rw [← ut hk1 hz]
   (simp only [bkq,enterW,aR,ltF,ne_eq,Nat.reduceEqDiff,reduceCtorEq,cp,hm];try simp (disch:=first|assumption|omega|(simp;done)|(simp;omega)|(simp only [bt,and_true];first|done|omega|(simp;done))) [↓zmi,beq,ybc,ybd,ybe,ag,wk,wk2,wk1,wkM,wkL,am,ybf,byq,biq,ae,hcl,cp,hm];try (repeat' (first|assumption|omega|exact True.intro|refine And.intro ?_ ?_|refine af ?_|refine aa ?_|refine ac ?_ ?_|refine ah ?_ ?_|refine aj ?_|exact AHeap.Le.refl _|refine AHeap.Le.push ?_ _|refine AHeap.Le.del ?_ ?_|(simp only [bt,and_true,true_and,cp,hm];first|done|omega|(simp;done)))))
  have h3':¬ t[k].op≤3:=by simp at h3;omega
  obtain ⟨ga,gb⟩:t[k].a<k∧t[k].b<k:=g4.resolve_left h3'
  simp only [go_sem,aD,bZ hk1,Int.toNat_natCast,hkn]
  refine ak (fun h4=>?_) (fun h4=>?_)
  ·have h4':t[k].op≤5:=by simp at h4;omega
   have hz:1+(bM (t.take k)).getD t[k].a 0=dAt (bM (t.take k)) t[k]:=by unfold dAt;rw [if_neg h3',if_pos h4']
   simp only [go_sem,aD,bZ hk1,Int.toNat_natCast,hkn,hrl,hgets _ ga,w1,hen _ hz,e5]
   refine ⟨by omega,by omega,by omega,by omega,k+1,by omega,by omega,?_⟩
   (simp only [bkq,enterW,aR,ltF,ne_eq,Nat.reduceEqDiff,reduceCtorEq,cp,hm];try simp (disch:=first|assumption|omega|(simp;done)|(simp;omega)|(simp only [bt,and_true];first|done|omega|(simp;done))) [↓zmi,beq,ybc,ybd,ybe,ag,wk,wk2,wk1,wkM,wkL,am,ybf,byq,biq,ae,hcl,cp,hm];try (repeat' (first|assumption|omega|exact True.intro|refine And.intro ?_ ?_|refine af ?_|refine aa ?_|refine ac ?_ ?_|refine ah ?_ ?_|refine aj ?_|exact AHeap.Le.refl _|refine AHeap.Le.push ?_ _|refine AHeap.Le.del ?_ ?_|(simp only [bt,and_true,true_and,cp,hm];first|done|omega|(simp;done)))))
  have h4':¬ t[k].op≤5:=by simp at h4;omega
  simp only [go_sem,aD,bZ hk1,Int.toNat_natCast,hkn]
  refine ak (fun h5=>?_) (fun h5=>?_)
  ·have h5':t[k].op=16:=by simp at h5;omega
   have hz:max ((bM (t.take k)).getD t[k].a 0) (1+(bM (t.take k)).getD t[k].b 0)=dAt (bM (t.take k)) t[k]:=by unfold dAt;rw [if_neg h3',if_neg h4',if_pos h5']
   simp only [go_sem,aD,bZ hk1,Int.toNat_natCast,hkn,hrl,hgets _ ga,hgets _ gb,w1,pi,hen _ hz,e5]
   refine ⟨by omega,by omega,by omega,by omega,by omega,by omega,k+1,by omega,by omega,?_⟩
   (simp only [bkq,enterW,aR,ltF,ne_eq,Nat.reduceEqDiff,reduceCtorEq,cp,hm];try simp (disch:=first|assumption|omega|(simp;done)|(simp;omega)|(simp only [bt,and_true];first|done|omega|(simp;done))) [↓zmi,beq,ybc,ybd,ybe,ag,wk,wk2,wk1,wkM,wkL,am,ybf,byq,biq,ae,hcl,cp,hm];try (repeat' (first|assumption|omega|exact True.intro|refine And.intro ?_ ?_|refine af ?_|refine aa ?_|refine ac ?_ ?_|refine ah ?_ ?_|refine aj ?_|exact AHeap.Le.refl _|refine AHeap.Le.push ?_ _|refine AHeap.Le.del ?_ ?_|(simp only [bt,and_true,true_and,cp,hm];first|done|omega|(simp;done)))))
  ·have h5':¬ t[k].op=16:=by simp at h5;omega
   have hz:max ((bM (t.take k)).getD t[k].a 0) ((bM (t.take k)).getD t[k].b 0)=dAt (bM (t.take k)) t[k]:=by unfold dAt;rw [if_neg h3',if_neg h4',if_neg h5']
   simp only [go_sem,aD,bZ hk1,Int.toNat_natCast,hkn,hrl,hgets _ ga,hgets _ gb,w1,pi,hen _ hz,e5]
   refine ⟨by omega,by omega,by omega,by omega,by omega,by omega,k+1,by omega,by omega,?_⟩
   (simp only [bkq,enterW,aR,ltF,ne_eq,Nat.reduceEqDiff,reduceCtorEq,cp,hm];try simp (disch:=first|assumption|omega|(simp;done)|(simp;omega)|(simp only [bt,and_true];first|done|omega|(simp;done))) [↓zmi,beq,ybc,ybd,ybe,ag,wk,wk2,wk1,wkM,wkL,am,ybf,byq,biq,ae,hcl,cp,hm];try (repeat' (first|assumption|omega|exact True.intro|refine And.intro ?_ ?_|refine af ?_|refine aa ?_|refine ac ?_ ?_|refine ah ?_ ?_|refine aj ?_|exact AHeap.Le.refl _|refine AHeap.Le.push ?_ _|refine AHeap.Le.del ?_ ?_|(simp only [bt,and_true,true_and,cp,hm];first|done|omega|(simp;done)))))
 ·have hk1:k=t.length:=by simp at hc;omega
  subst hk1
  have hrl:=rC (t:=t) (Nat.le_refl _)
  have hfull:bM (t.take t.length)=bM t:=by rw [List.take_length]
  by_cases ht0:t=[]
  ·subst ht0
   have hd0:dl []=0:=rfl
   have d1:(((([]:List Nd).length:Nat):Int)==0)=true:=rfl
   have hcl2:=hcl1 0
   have hkk:((((0:Nat):Int))==0)=true:=rfl
   simp only [go_sem,hd0,yba,aD,zat,hkk]
   simp (disch:=first|assumption|omega|(simp;done)|(simp;omega)|(simp only [bt,and_true];first|done|omega|(simp;done))) [↓zmi,beq,ybc,ybd,ybe,ag,wk,wk2,wk1,wkM,wkL,am,ybf,hcl,hcl2]
  have htp:=List.length_pos_iff.2 ht0
  have d1:((t.length:Int)==0)=false:=by simp;omega
  have e6:IntKind.i64.wrap ((t.length:Int) - 1)=((t.length - 1:Nat):Int):=by rw [wrap_i64]<;>omega
  have hge:=rF (t:=t) (Nat.le_refl _) (show t.length - 1<t.length by omega)
  rw [hfull,show (bM t).getD (t.length - 1) 0=dl t from rfl] at hge
  simp only [go_sem,aD,d1,e6,hrl,hge,Int.toNat_natCast]
  refine ⟨by omega,by omega,?_⟩
  simp (disch:=first|assumption|omega|(simp;done)|(simp;omega)|(simp only [bt,and_true];first|done|omega|(simp;done))) [↓zmi,beq,ybc,ybd,ybe,ag,wk,wk2,wk1,wkM,wkL,am,ybf,hcl,hcl1]
end Go.AL
open Go Go.AL Go.Proofs
namespace Go.AL
set_option linter.all false
set_option maxRecDepth 10000
def nk:List AV→AHeap→(AV→Prop)→Prop
 |[.slice _ 7 x],_,K=>∃ t,(x=nds t∧Good t∧t.length≤1000)∧K (.int .i64 ((dl t:Nat):Int))
 |_,_,_=>False
theorem uD:EntOk Try.prog 39 (Ent.pure nk):=by
 refine EntOk.pure fun args H K h=>?_
 unfold nk at h
 split at h
 rotate_left
 ·exact h.elim
 rename_i m x
 obtain ⟨t,⟨rfl,hgt,hl⟩,hK⟩:=h
 refine ⟨_,hK,?_⟩
 clear hK
 refine ACalls.fW aI (TblOk.cons qE TblOk.nil) Try.func39 [.tmp 2] (Nat.le_refl _) (T:=aA [(7,[[],[],[],[],[2],[],[],[],[],[2,4,7]])]) (h:=fun hcl hlt=>?_)
 have hm:∀ n',H.nx≤n'→AV.lt n' (.slice m 7 (nds t)):=fun n' hn=>AV.lt_mono hn _ (hlt (.slice m 7 (nds t)) (by simp))
 clear hlt
 by_cases ht0:t=[]
 ·subst ht0
  have hd0:dl []=0:=rfl
  have hkk:((((0:Nat):Int))==0)=true:=rfl
  simp only [go_sem,hd0,yba,aD,zat,hkk]
  simp (disch:=first|assumption|omega|(simp;done)|(simp;omega)|(simp only [bt,and_true];first|done|omega|(simp;done))) [↓zmi,beq,ybc,ybd,ybe,ag,wk,wk2,wk1,wkM,wkL,am,ybf,hcl]
 have htp:=List.length_pos_iff.2 ht0
 have d1:((t.length:Int)==0)=false:=by simp;omega
 simp only [go_sem,aD,Int.toNat_natCast,d1]
 refine ax (A:=Nat) (fun k=>[(3,.slice (.own H.nx) 1 (its (bM (t.take k)))),(11,.slice m 7 (nds t)),(12,.int .i64 (t.length:Int)),(13,.int .i64 (k:Int))]) (fun k=>H.push (.buf 1 k)) (fun k=>k≤t.length) (fun k=>t.length - k) 0 (by omega) ?_ fun k hk=>?_
 ·have e0:its (bM (t.take 0))=[]:=rfl
  (simp only [bkq,enterW,aR,ltF,ne_eq,Nat.reduceEqDiff,reduceCtorEq,hm,e0];try simp (disch:=first|assumption|omega|(simp;done)|(simp;omega)|(simp only [bt,and_true];first|done|omega|(simp;done))) [↓zmi,beq,ybc,ybd,ybe,ag,wk,wk2,wk1,wkM,wkL,am,ybf,byq,biq,ae,hcl,hm,e0];try (repeat' (first|assumption|omega|exact True.intro|refine And.intro ?_ ?_|refine af ?_|refine aa ?_|refine ac ?_ ?_|refine ah ?_ ?_|refine aj ?_|exact AHeap.Le.refl _|refine AHeap.Le.push ?_ _|refine AHeap.Le.del ?_ ?_|(simp only [bt,and_true,true_and,hm,e0];first|done|omega|(simp;done)))))
 have hcl1:∀ k,(H.push (.buf 1 k)).Closed:=fun k=>af hcl
 have hil:(its (bM (t.take k))).length=k:=by rw [du,bW hk]
 simp only [go_sem]
 refine ak (fun hc=>?_) (fun hc=>?_)
 ·have hk1:k<t.length:=by simp at hc;omega
  have e5:IntKind.i64.wrap ((k:Int)+1)=((k+1:Nat):Int):=by rw [wrap_i64]<;>omega
  obtain ⟨g1,g2,g3,g4⟩:=hgt k t[k] (by simp [hk1])
  have hkn:(H.nx=H.nx+1)=False:=eq_false (by omega)
  have hdl:∀ a,(bM (t.take k)).getD a 0≤k:=fun a=>l5 (qg (by omega)) a
  have w1:∀ a,IntKind.i64.wrap ((((bM (t.take k)).getD a 0:Nat):Int)+1)=((1+(bM (t.take k)).getD a 0:Nat):Int):=fun a=>by
   have:=hdl a
   rw [wrap_i64]<;>omega
  simp only [go_sem,aD,bZ hk1,Int.toNat_natCast,hkn,jZ]
  refine ⟨by omega,bM (t.take k),⟨rfl,by omega,by rw [bW hk],by rw [bW hk];omega⟩,bM (t.take k),⟨rfl,by omega,by rw [bW hk],by rw [bW hk];omega⟩,?_⟩
  have hsn:∀ d:Nat,d=dAt (bM (t.take k)) t[k]→its (bM (t.take k))++[AV.int .i64 (d:Int)]=its (bM (t.take (k+1))):=fun d hd=>by rw [gU hk1,← hd,xN]
  have hsz:dAt (bM (t.take k)) t[k]=0→its (bM (t.take k))++[AV.int .i64 0]=its (bM (t.take (k+1))):=fun hd=>hsn 0 hd.symm
  have hb:=hdl t[k].a
  generalize hop:t[k].op=op at g1 g2 g4
  rcases (by omega:op=1∨op=2∨op=3∨op=4∨op=5∨op=16∨(6≤op∧op≤15)) with ho|ho|ho|ho|ho|ho|ho
  ·subst ho
   have b1:((((1:Nat):Int))==1)=true:=rfl
   have b2:((((1:Nat):Int))==2)=false:=rfl
   have b3:((((1:Nat):Int))==3)=false:=rfl
   have b4:((((1:Nat):Int))==4)=false:=rfl
   have b5:((((1:Nat):Int))==5)=false:=rfl
   have b16:((((1:Nat):Int))==16)=false:=rfl
   have hv:0=dAt (bM (t.take k)) t[k]:=by unfold dAt;rw [if_pos (by omega)]
   simp only [go_sem,aD,Int.toNat_natCast,hkn,hop,zat,zau,b1,b2,b3,b4,b5,b16,hil,w1,pi,e5,hsz hv.symm]
   refine ⟨⟨by omega,by omega,by simp [aX,AV.cells,AV.one]⟩,k+1,by omega,by omega,?_⟩
   (simp only [bkq,enterW,aR,ltF,ne_eq,Nat.reduceEqDiff,reduceCtorEq,hm,bU];try simp (disch:=first|assumption|omega|(simp;done)|(simp;omega)|(simp only [bt,and_true];first|done|omega|(simp;done))) [↓zmi,beq,ybc,ybd,ybe,ag,wk,wk2,wk1,wkM,wkL,am,ybf,byq,biq,ae,hcl,hm,bU];try (repeat' (first|assumption|omega|exact True.intro|refine And.intro ?_ ?_|refine af ?_|refine aa ?_|refine ac ?_ ?_|refine ah ?_ ?_|refine aj ?_|exact AHeap.Le.refl _|refine AHeap.Le.push ?_ _|refine AHeap.Le.del ?_ ?_|(simp only [bt,and_true,true_and,hm,bU];first|done|omega|(simp;done)))))
  ·subst ho
   have b1:((((2:Nat):Int))==1)=false:=rfl
   have b2:((((2:Nat):Int))==2)=true:=rfl
   have b3:((((2:Nat):Int))==3)=false:=rfl
   have b4:((((2:Nat):Int))==4)=false:=rfl
   have b5:((((2:Nat):Int))==5)=false:=rfl
   have b16:((((2:Nat):Int))==16)=false:=rfl
   have hv:0=dAt (bM (t.take k)) t[k]:=by unfold dAt;rw [if_pos (by omega)]
   simp only [go_sem,aD,Int.toNat_natCast,hkn,hop,zat,zau,b1,b2,b3,b4,b5,b16,hil,w1,pi,e5,hsz hv.symm]
   refine ⟨⟨by omega,by omega,by simp [aX,AV.cells,AV.one]⟩,k+1,by omega,by omega,?_⟩
   (simp only [bkq,enterW,aR,ltF,ne_eq,Nat.reduceEqDiff,reduceCtorEq,hm,bU];try simp (disch:=first|assumption|omega|(simp;done)|(simp;omega)|(simp only [bt,and_true];first|done|omega|(simp;done))) [↓zmi,beq,ybc,ybd,ybe,ag,wk,wk2,wk1,wkM,wkL,am,ybf,byq,biq,ae,hcl,hm,bU];try (repeat' (first|assumption|omega|exact True.intro|refine And.intro ?_ ?_|refine af ?_|refine aa ?_|refine ac ?_ ?_|refine ah ?_ ?_|refine aj ?_|exact AHeap.Le.refl _|refine AHeap.Le.push ?_ _|refine AHeap.Le.del ?_ ?_|(simp only [bt,and_true,true_and,hm,bU];first|done|omega|(simp;done)))))
  ·subst ho
   have b1:((((3:Nat):Int))==1)=false:=rfl
   have b2:((((3:Nat):Int))==2)=false:=rfl
   have b3:((((3:Nat):Int))==3)=true:=rfl
   have b4:((((3:Nat):Int))==4)=false:=rfl
   have b5:((((3:Nat):Int))==5)=false:=rfl
   have b16:((((3:Nat):Int))==16)=false:=rfl
   have hv:0=dAt (bM (t.take k)) t[k]:=by unfold dAt;rw [if_pos (by omega)]
   simp only [go_sem,aD,Int.toNat_natCast,hkn,hop,zat,zau,b1,b2,b3,b4,b5,b16,hil,w1,pi,e5,hsz hv.symm]
   refine ⟨⟨by omega,by omega,by simp [aX,AV.cells,AV.one]⟩,k+1,by omega,by omega,?_⟩
   (simp only [bkq,enterW,aR,ltF,ne_eq,Nat.reduceEqDiff,reduceCtorEq,hm,bU];try simp (disch:=first|assumption|omega|(simp;done)|(simp;omega)|(simp only [bt,and_true];first|done|omega|(simp;done))) [↓zmi,beq,ybc,ybd,ybe,ag,wk,wk2,wk1,wkM,wkL,am,ybf,byq,biq,ae,hcl,hm,bU];try (repeat' (first|assumption|omega|exact True.intro|refine And.intro ?_ ?_|refine af ?_|refine aa ?_|refine ac ?_ ?_|refine ah ?_ ?_|refine aj ?_|exact AHeap.Le.refl _|refine AHeap.Le.push ?_ _|refine AHeap.Le.del ?_ ?_|(simp only [bt,and_true,true_and,hm,bU];first|done|omega|(simp;done)))))
  ·subst ho
   have b1:((((4:Nat):Int))==1)=false:=rfl
   have b2:((((4:Nat):Int))==2)=false:=rfl
   have b3:((((4:Nat):Int))==3)=false:=rfl
   have b4:((((4:Nat):Int))==4)=true:=rfl
   have b5:((((4:Nat):Int))==5)=false:=rfl
   have b16:((((4:Nat):Int))==16)=false:=rfl
   have hv:1+(bM (t.take k)).getD t[k].a 0=dAt (bM (t.take k)) t[k]:=by unfold dAt;rw [if_neg (by omega),if_pos (by omega)]
   simp only [go_sem,aD,Int.toNat_natCast,hkn,hop,zat,zau,b1,b2,b3,b4,b5,b16,hil,w1,pi,e5,hsn _ hv]
   refine ⟨⟨by omega,by omega,by simp [aX,AV.cells,AV.one]⟩,k+1,by omega,by omega,?_⟩
   (simp only [bkq,enterW,aR,ltF,ne_eq,Nat.reduceEqDiff,reduceCtorEq,hm,bU];try simp (disch:=first|assumption|omega|(simp;done)|(simp;omega)|(simp only [bt,and_true];first|done|omega|(simp;done))) [↓zmi,beq,ybc,ybd,ybe,ag,wk,wk2,wk1,wkM,wkL,am,ybf,byq,biq,ae,hcl,hm,bU];try (repeat' (first|assumption|omega|exact True.intro|refine And.intro ?_ ?_|refine af ?_|refine aa ?_|refine ac ?_ ?_|refine ah ?_ ?_|refine aj ?_|exact AHeap.Le.refl _|refine AHeap.Le.push ?_ _|refine AHeap.Le.del ?_ ?_|(simp only [bt,and_true,true_and,hm,bU];first|done|omega|(simp;done)))))
  ·subst ho
   have b1:((((5:Nat):Int))==1)=false:=rfl
   have b2:((((5:Nat):Int))==2)=false:=rfl
   have b3:((((5:Nat):Int))==3)=false:=rfl
   have b4:((((5:Nat):Int))==4)=false:=rfl
   have b5:((((5:Nat):Int))==5)=true:=rfl
   have b16:((((5:Nat):Int))==16)=false:=rfl
   have hv:1+(bM (t.take k)).getD t[k].a 0=dAt (bM (t.take k)) t[k]:=by unfold dAt;rw [if_neg (by omega),if_pos (by omega)]
   simp only [go_sem,aD,Int.toNat_natCast,hkn,hop,zat,zau,b1,b2,b3,b4,b5,b16,hil,w1,pi,e5,hsn _ hv]
   refine ⟨⟨by omega,by omega,by simp [aX,AV.cells,AV.one]⟩,k+1,by omega,by omega,?_⟩
   (simp only [bkq,enterW,aR,ltF,ne_eq,Nat.reduceEqDiff,reduceCtorEq,hm,bU];try simp (disch:=first|assumption|omega|(simp;done)|(simp;omega)|(simp only [bt,and_true];first|done|omega|(simp;done))) [↓zmi,beq,ybc,ybd,ybe,ag,wk,wk2,wk1,wkM,wkL,am,ybf,byq,biq,ae,hcl,hm,bU];try (repeat' (first|assumption|omega|exact True.intro|refine And.intro ?_ ?_|refine af ?_|refine aa ?_|refine ac ?_ ?_|refine ah ?_ ?_|refine aj ?_|exact AHeap.Le.refl _|refine AHeap.Le.push ?_ _|refine AHeap.Le.del ?_ ?_|(simp only [bt,and_true,true_and,hm,bU];first|done|omega|(simp;done)))))
  ·subst ho
   have b1:((((16:Nat):Int))==1)=false:=rfl
   have b2:((((16:Nat):Int))==2)=false:=rfl
   have b3:((((16:Nat):Int))==3)=false:=rfl
   have b4:((((16:Nat):Int))==4)=false:=rfl
   have b5:((((16:Nat):Int))==5)=false:=rfl
   have b16:((((16:Nat):Int))==16)=true:=rfl
   have hv:max ((bM (t.take k)).getD t[k].a 0) (1+(bM (t.take k)).getD t[k].b 0)=dAt (bM (t.take k)) t[k]:=by unfold dAt;rw [if_neg (by omega),if_neg (by omega),if_pos (by omega)]
   simp only [go_sem,aD,Int.toNat_natCast,hkn,hop,zat,zau,b1,b2,b3,b4,b5,b16,hil,w1,pi,e5,hsn _ hv]
   refine ⟨⟨by omega,by omega,by simp [aX,AV.cells,AV.one]⟩,k+1,by omega,by omega,?_⟩
   (simp only [bkq,enterW,aR,ltF,ne_eq,Nat.reduceEqDiff,reduceCtorEq,hm,bU];try simp (disch:=first|assumption|omega|(simp;done)|(simp;omega)|(simp only [bt,and_true];first|done|omega|(simp;done))) [↓zmi,beq,ybc,ybd,ybe,ag,wk,wk2,wk1,wkM,wkL,am,ybf,byq,biq,ae,hcl,hm,bU];try (repeat' (first|assumption|omega|exact True.intro|refine And.intro ?_ ?_|refine af ?_|refine aa ?_|refine ac ?_ ?_|refine ah ?_ ?_|refine aj ?_|exact AHeap.Le.refl _|refine AHeap.Le.push ?_ _|refine AHeap.Le.del ?_ ?_|(simp only [bt,and_true,true_and,hm,bU];first|done|omega|(simp;done)))))
  ·have b1:((op:Int)==1)=false:=by simp;omega
   have b2:((op:Int)==2)=false:=by simp;omega
   have b3:((op:Int)==3)=false:=by simp;omega
   have b4:((op:Int)==4)=false:=by simp;omega
   have b5:((op:Int)==5)=false:=by simp;omega
   have b16:((op:Int)==16)=false:=by simp;omega
   have hv:max ((bM (t.take k)).getD t[k].a 0) ((bM (t.take k)).getD t[k].b 0)=dAt (bM (t.take k)) t[k]:=by unfold dAt;rw [if_neg (by omega),if_neg (by omega),if_neg (by omega)]
   simp only [go_sem,aD,Int.toNat_natCast,hkn,hop,zat,zau,b1,b2,b3,b4,b5,b16,hil,w1,pi,e5,hsn _ hv]
   refine ⟨⟨by omega,by omega,by simp [aX,AV.cells,AV.one]⟩,k+1,by omega,by omega,?_⟩
   (simp only [bkq,enterW,aR,ltF,ne_eq,Nat.reduceEqDiff,reduceCtorEq,hm,bU];try simp (disch:=first|assumption|omega|(simp;done)|(simp;omega)|(simp only [bt,and_true];first|done|omega|(simp;done))) [↓zmi,beq,ybc,ybd,ybe,ag,wk,wk2,wk1,wkM,wkL,am,ybf,byq,biq,ae,hcl,hm,bU];try (repeat' (first|assumption|omega|exact True.intro|refine And.intro ?_ ?_|refine af ?_|refine aa ?_|refine ac ?_ ?_|refine ah ?_ ?_|refine aj ?_|exact AHeap.Le.refl _|refine AHeap.Le.push ?_ _|refine AHeap.Le.del ?_ ?_|(simp only [bt,and_true,true_and,hm,bU];first|done|omega|(simp;done)))))
 ·have hk1:k=t.length:=by simp at hc;omega
  subst hk1
  have e6:IntKind.i64.wrap ((t.length:Int) - 1)=((t.length - 1:Nat):Int):=by rw [wrap_i64]<;>omega
  have hge:=pA (d:=bM t) (a:=t.length - 1) (by rw [wW];omega)
  rw [show (bM t).getD (t.length - 1) 0=dl t from rfl] at hge
  rw [List.take_length] at hil
  simp only [go_sem,aD,List.take_length,hil,e6,hge,Int.toNat_natCast]
  refine ⟨by omega,?_⟩
  simp (disch:=first|assumption|omega|(simp;done)|(simp;omega)|(simp only [bt,and_true];first|done|omega|(simp;done))) [↓zmi,beq,ybc,ybd,ybe,ag,wk,wk2,wk1,wkM,wkL,am,ybf,hcl,hcl1]
end Go.AL
open Go Go.AL Go.Proofs
namespace Go.AL
set_option linter.all false
set_option maxRecDepth 10000
theorem dB {A:Prop} {g:FuncId} {rl:Rl}:EntOk Try.prog g (Ent.some (aE A rl 0)):=by
 refine EntOk.some fun args H K h=>?_
 unfold aE at h
 split at h
 ·obtain ⟨m,l,p,b,tb,t,hg,hpre,hK⟩:=h
  exact hK.elim
 ·exact h.elim
structure RulesR (A:Prop) (f:Nat):Prop where
 imp:EntOk Try.prog 40 (Ent.some (dD A f))
 or:EntOk Try.prog 70 (Ent.some (jR A f))
 and:EntOk Try.prog 87 (Ent.some (gE A f))
 not:EntOk Try.prog 92 (Ent.some (ef A f))
 cmp:EntOk Try.prog 95 (Ent.some (j6 A f))
 sum:EntOk Try.prog 97 (Ent.some (gD A f))
 un:EntOk Try.prog 101 (Ent.some (fo A f))
 atom:EntOk Try.prog 104 (Ent.some (g8 A f))
theorem n5 {A:Prop} (hV:∀ f,EntOk Try.prog 106 (Ent.some (iH A f))):∀ f,RulesR A f
 |0=>⟨dB,dB,dB,dB,dB,dB,dB,dB⟩
 |f+1=>have h:=n5 hV f
  ⟨yI h.or h.imp,zH h.and,yu h.not,ye h.not h.cmp,yW h.sum,yU h.un,zM h.un h.atom,w6 (hV f) h.imp⟩
def kC (t:List Nd):Bool:=decide (120<t.length)||decide (12<dl t)
def eM (l:List Tok):PR→AV
 |.ok _ p t=>if p<l.length then .tup [.slice .any 7 [],.int .i64 (p:Int),.int .i64 10] else if kC t=true then .tup [.slice .any 7 [],.int .i64 0,.int .i64 11] else .tup [.slice .any 7 (nds t),.int .i64 0,.int .i64 0]
 |.bad p=>.tup [.slice .any 7 [],.int .i64 (p:Int),.int .i64 10]
def mj (A:Prop) (_g:Nat):List AV→AHeap→(AV→AHeap→Prop)→Prop
 |[.slice _ 3 x],H,K=>∃ l f r,(x=bR l∧run l f .imp 0 []=some r∧l.length≤1000∧jV l∧tA A l)∧K (eM l r) H
 |_,_,_=>False
def nv:List AV→AHeap→(AV→Prop)→Prop
 |[.slice _ 3 x],H,K=>∃ l f r,(x=bR l∧run l f .imp 0 []=some r∧l.length≤1000∧jV l)∧K (eM l r)
 |_,_,_=>False
theorem uE:EntOk Try.prog 11 (Ent.pure nv):=by
 refine EntOk.pure fun args H K h=>?_
 unfold nv at h
 split at h
 rotate_left
 ·exact h.elim
 rename_i m x
 obtain ⟨l,f,r,⟨rfl,hr,hl,hgl⟩,hK⟩:=h
 refine ⟨_,hK,?_⟩
 clear hK
 have hw:=aN f hr Good.nil trivial (Nat.zero_le _)
 refine ACalls.fW aI (TblOk.cons v9 (TblOk.cons uD TblOk.nil)) Try.func11 [.tmp 2,.tmp 3,.tmp 4] (Nat.le_refl _) (T:=aA []) (h:=fun hcl hlt=>?_)
 clear hlt
 simp only [go_sem,p8]
 refine ⟨l,f,r,⟨rfl,hr,hl,hgl⟩,?_⟩
 cases r with
 |bad q =>
  simp only [go_sem,lh,eM]
  simp (disch:=first|assumption|omega|(simp;done)|(simp;omega)|(simp only [bt,and_true];first|done|omega|(simp;done))) [↓zmi,beq,ybc,ybd,ybe,ag,wk,wk2,wk1,wkM,wkL,am,ybf,hcl,eL]
 |ok a p t =>
  obtain ⟨k1,k2,k3,k4,k5,k6⟩:=hw
  simp only [lh,eM]
  by_cases hp:p<l.length
  ·simp only [if_pos hp,go_sem]
   simp (disch:=first|assumption|omega|(simp;done)|(simp;omega)|(simp only [bt,and_true];first|done|omega|(simp;done))) [↓zmi,beq,ybc,ybd,ybe,ag,wk,wk2,wk1,wkM,wkL,am,ybf,hcl,eL]
  ·have ht:t.length≤1000:=by simp at k3;omega
   simp only [if_neg hp,go_sem,aD]
   by_cases h1:120<t.length
   ·have hb:kC t=true:=by unfold kC;simp [h1]
    have d1:decide ((t.length:Int) > 120)=true:=by simp;omega
    rw [if_pos hb]
    simp only [d1,go_sem]
    simp (disch:=first|assumption|omega|(simp;done)|(simp;omega)|(simp only [bt,and_true];first|done|omega|(simp;done))) [↓zmi,beq,ybc,ybd,ybe,ag,wk,wk2,wk1,wkM,wkL,am,ybf,hcl,eL]
   ·have d1:decide ((t.length:Int) > 120)=false:=by simp;omega
    simp only [d1,go_sem,nk]
    refine ⟨t,⟨rfl,k5,ht⟩,?_⟩
    by_cases h2:12<dl t
    ·have hb:kC t=true:=by unfold kC;simp [h2]
     have d2:decide (((dl t:Nat):Int) > 12)=true:=by simp;omega
     rw [if_pos hb]
     simp only [d2,go_sem]
     simp (disch:=first|assumption|omega|(simp;done)|(simp;omega)|(simp only [bt,and_true];first|done|omega|(simp;done))) [↓zmi,beq,ybc,ybd,ybe,ag,wk,wk2,wk1,wkM,wkL,am,ybf,hcl,eL]
    ·have hb:¬ kC t=true:=by unfold kC;simp;omega
     have d2:decide (((dl t:Nat):Int) > 12)=false:=by simp;omega
     rw [if_neg hb]
     simp only [d2,go_sem]
     simp (disch:=first|assumption|omega|(simp;done)|(simp;omega)|(simp only [bt,and_true];first|done|omega|(simp;done))) [↓zmi,beq,ybc,ybd,ybe,ag,wk,wk2,wk1,wkM,wkL,am,ybf,hcl,cI]
end Go.AL
