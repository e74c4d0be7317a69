/- Contracts and plain laws, a part of the proof; no condition of its own. -/
import Derived.Test.YtokjjhidigoodaaGreatS07u
import Derived.Test.YtokjjhidigoodaaGreatS07d
import Derived.Test.YtokjjhidigoodaaGreatLSyn2
set_option maxHeartbeats 32000000
open List renaming map_cons → yae, length_cons → yaz, length_nil → yba, take_of_length_le → ybc, drop_append → ybd, take_append → ybe, drop_eq_nil_of_le → ybf, cons_append → yal
open Go Go.AL Go.Proofs
namespace Go.AL
set_option linter.all false
set_option maxRecDepth 10000
def its (d:List Nat):List AV:=d.map fun (n:Nat)=>.int .i64 (n:Int)
theorem fR {d:List Nat}:(its d).length=d.length:=by simp [its]
theorem xF {d:List Nat} {a:Nat} (h:a<d.length):(its d).getD a .junk=.int .i64 ((d.getD a 0:Nat):Int):=by
 simp [its,List.getD_eq_getElem?_getD,h]
theorem HC {d:List Nat} {n:Nat}:its d++[.int .i64 (n:Int)]=its (d++[n]):=by simp [its]
theorem HV {n:Nat} {d:List Nat}:ltL n (its d):=by
 induction d with
 |nil=>simp [its,znr]
 |cons a d ih=>simp only [its,yae,znq,znb,true_and];exact ih
theorem cY {n:Nat} {m:Mark} {d:List Nat}:AV.lt n (.slice m 1 (its d))=∀ id,m=.own id→id<n:=by
 rw [AV.lt]
 refine propext ⟨fun h=>h.1,fun h=>⟨h,fun j hj=>?_⟩⟩
 simp only [its,List.getElem_map]
 simp [znb]
theorem cM {t:List Nd} {k:Nat} (h:k<t.length):(nds t).getD k .junk=.agg [.int .i64 (t[k].op:Int),.int .i64 (t[k].a:Int),.int .i64 (t[k].b:Int),.str t[k].name,.str t[k].attr,.int .u64 ((t[k].v/2^64:Nat):Int),.int .u64 ((t[k].v % 2^64:Nat):Int)]:=by
 simp [nds,jD,List.getD_eq_getElem?_getD,h]
def oM:List AV→AHeap→(AV→Prop)→Prop
 |[.slice _ 1 x,.int .i64 a,.int .i64 i],_,K=>∃ d,(x=its d∧0≤a∧i=(d.length:Int)∧d.length≤100000)∧K (.int .i64 ((d.getD a.toNat 0:Nat):Int))
 |_,_,_=>False
theorem zC:EntOk Tryz.prog 400 (Ent.pure oM):=by
 refine EntOk.pure fun args H K h=>?_
 unfold oM at h
 split at h
 rotate_left
 ·exact h.elim
 rename_i m x a i
 obtain ⟨d,⟨rfl,h1,rfl,hd⟩,hK⟩:=h
 refine ⟨_,hK,?_⟩
 clear hK
 obtain ⟨a,rfl⟩:=cf h1
 simp only [Int.toNat_natCast]
 refine ACalls.fW aB TblOk.nil Tryz.func400 [.tmp 6] (Nat.le_refl _) (T:=aA []) (h:=fun hcl hlt=>?_)
 clear hlt
 have d1:decide ((a:Int)<0)=false:=by simp
 by_cases ha:a<d.length
 ·have d2:decide ((a:Int) ≥ (d.length:Int))=false:=by simp;omega
  simp only [go_sem,fR,d1,d2,xF ha,Int.toNat_natCast]
  refine ⟨by omega,?_⟩
  exact Z0
 ·have d2:decide ((a:Int) ≥ (d.length:Int))=true:=by simp;omega
  have e:d.getD a 0=0:=by rw [List.getD_eq_getElem?_getD,List.getElem?_eq_none (by omega)];rfl
  simp only [go_sem,fR,d1,d2,e]
  exact Z0
def lW (t:List Nd) (k:Nat):List AV:=its (cN (t.take k))++its (List.replicate (t.length - k) 0)
theorem yH {t:List Nd} {k:Nat} (h:k≤t.length):(lW t k).length=t.length:=by
 simp only [lW,List.length_append,fR,c6 h,List.length_replicate];omega
theorem dY {n:Nat} {t:List Nd} {k:Nat}:ltL n (lW t k):=by
 unfold lW its
 rw [← List.map_append]
 exact HV
theorem zY {t:List Nd} {k a:Nat} (h:k≤t.length) (ha:a<k):(lW t k).getD a .junk=.int .i64 (((cN (t.take k)).getD a 0:Nat):Int):=by
 have h1:a<(cN (t.take k)).length:=by rw [c6 h];exact ha
 rw [List.getD_eq_getElem?_getD,lW,List.getElem?_append_left (by rw [fR];exact h1)]
 simp [its,List.getD_eq_getElem?_getD,h1]
theorem vH:∀ (A:List AV) (x v:AV) (B:List AV),splice (A++x::B) A.length [v]=A++v::B
 |[],x,v,B=>by cases B<;>rfl
 |c::A,x,v,B=>by
  have:=vH A x v B
  simp only [yal,yaz,splice]
  rw [this]
theorem FK {t:List Nd} {k d:Nat} (h:k<t.length) (hd:d=dAt (cN (t.take k)) t[k]):splice (lW t k) k [.int .i64 (d:Int)]=lW t (k+1):=by
 have hl:(its (cN (t.take k))).length=k:=by rw [fR,c6 (by omega)]
 have e:t.length - k=(t.length - (k+1))+1:=by omega
 unfold lW
 rw [lf h,e,List.replicate_succ,← hd]
 have h2:=vH (its (cN (t.take k))) (.int .i64 ((0:Nat):Int)) (.int .i64 (d:Int)) (its (List.replicate (t.length - (k+1)) 0))
 rw [hl] at h2
 rw [show its (0::List.replicate (t.length - (k+1)) 0)=.int .i64 ((0:Nat):Int)::its (List.replicate (t.length - (k+1)) 0) from rfl,h2]
 simp [its]
theorem CK {t:List Nd} {k:Nat} (h:k<t.length) (hd:dAt (cN (t.take k)) t[k]=0):lW t k=lW t (k+1):=by
 have e:t.length - k=(t.length - (k+1))+1:=by omega
 unfold lW
 rw [lf h,e,List.replicate_succ,hd]
 simp [its]
theorem KM {t:List Nd}:(List.replicate t.length [AV.int .i64 0]).flatten=lW t 0:=by
 unfold lW
 have:∀ n:Nat,(List.replicate n [AV.int .i64 0]).flatten=its (List.replicate n 0):=fun n=>by
  induction n with
  |zero=>rfl
  |succ n ih=>rw [List.replicate_succ,List.replicate_succ,List.flatten_cons,ih];rfl
 rw [this];simp [cN,its]
theorem xW {a b:Nat}:max (a:Int) (b:Int)=((max a b:Nat):Int):=by omega
def nc:List AV→AHeap→(AV→Prop)→Prop
 |[.slice _ 7 x],_,K=>∃ t,(x=nds t∧Good t∧t.length≤1000)∧K (.int .i64 ((fL t:Nat):Int))
 |_,_,_=>False
theorem D2:EntOk Tryz.prog 412 (Ent.pure nc):=by
 refine EntOk.pure fun args H K h=>?_
 unfold nc at h
 split at h
 rotate_left
 ·exact h.elim
 rename_i m x
 obtain ⟨t,⟨rfl,hgt,hl⟩,hK⟩:=h
 refine ⟨_,hK,?_⟩
 clear hK
 refine ACalls.fW aB TblOk.nil Tryz.func412 [.tmp 2] (Nat.le_refl _) (T:=aA [(10,[[],[],[],[],[],[],[],[],[],[],[],[],[],[],[],[4,6,9,11]]),(5,[[],[],[],[],[],[],[],[],[],[],[],[],[],[],[4,6,9,11]])]) (h:=fun hcl hlt=>?_)
 have hm:∀ n',H.nx≤n'→AV.lt n' (.slice m 7 (nds t)):=fun n' hn=>AV.lt_mono hn _ (hlt (.slice m 7 (nds t)) (by simp))
 clear hlt
 simp only [go_sem,aF,Int.toNat_natCast,KM]
 refine ⟨by omega,?_⟩
 refine ay (A:=Nat) (fun k=>[(0,.slice m 7 (nds t)),(3,.ms H.nx 0 1 t.length),(9,.slice m 7 (nds t)),(10,.int .i64 (t.length:Int)),(11,.int .i64 (k:Int))]) (fun k=>H.push (.cells (lW t k))) (fun k=>k≤t.length) (fun k=>t.length - k) 0 (by omega) ?_ fun k hk=>?_
 ·exact Z34
 have hcl1:∀ k,(H.push (.cells (lW t k))).Closed:=fun k=>ae hcl dY
 simp only [go_sem]
 refine aq (fun hc=>?_) (fun hc=>?_)
 ·have hk1:k<t.length:=by simp at hc;omega
  have e5:IntKind.i64.wrap ((k:Int)+1)=((k+1:Nat):Int):=by rw [wrap_i64]<;>omega
  obtain ⟨g1,g2,g3,g4⟩:=hgt k t[k] (by simp [hk1])
  have hrl:=yH (t:=t) (k:=k) (by omega)
  have hgets:∀ a,a<k→(lW t k).getD a .junk=.int .i64 (((cN (t.take k)).getD a 0:Nat):Int):=fun a ha=>zY (by omega) ha
  have hkn:(H.nx=H.nx+1)=False:=eq_false (by omega)
  have hen:∀ d:Nat,d=dAt (cN (t.take k)) t[k]→splice (lW t k) k [.int .i64 (d:Int)]=lW t (k+1):=fun d hd=>FK hk1 hd
  have hdl:∀ a,(cN (t.take k)).getD a 0≤k:=fun a=>sn (yl (by omega)) a
  have w1:∀ a,IntKind.i64.wrap (1+(((cN (t.take k)).getD a 0:Nat):Int))=((1+(cN (t.take k)).getD a 0:Nat):Int):=fun a=>by
   have:=hdl a
   rw [wrap_i64]<;>omega
  simp only [go_sem,aF,cM hk1,Int.toNat_natCast,hkn]
  refine ⟨by omega,?_⟩
  refine aq (fun h3=>?_) (fun h3=>?_)
  ·have h3':t[k].op≤3:=by simp at h3;omega
   have hz:dAt (cN (t.take k)) t[k]=0:=by unfold dAt;rw [if_pos h3']
   try simp only [go_sem]
   refine ⟨k+1,by omega,by omega,?_⟩
   rw [← CK hk1 hz]
   exact Z34
  have h3':¬ t[k].op≤3:=by simp at h3;omega
  obtain ⟨ga,gb⟩:t[k].a<k∧t[k].b<k:=g4.resolve_left h3'
  simp only [go_sem,aF,cM hk1,Int.toNat_natCast,hkn]
  refine aq (fun h4=>?_) (fun h4=>?_)
  ·have h4':t[k].op≤5:=by simp at h4;omega
   have hz:1+(cN (t.take k)).getD t[k].a 0=dAt (cN (t.take k)) t[k]:=by unfold dAt;rw [if_neg h3',if_pos h4']
   simp only [go_sem,aF,cM hk1,Int.toNat_natCast,hkn,hrl,hgets _ ga,w1,hen _ hz,e5]
   refine ⟨by omega,by omega,by omega,by omega,k+1,by omega,by omega,?_⟩
   exact Z34
  have h4':¬ t[k].op≤5:=by simp at h4;omega
  simp only [go_sem,aF,cM hk1,Int.toNat_natCast,hkn]
  refine aq (fun h5=>?_) (fun h5=>?_)
  ·have h5':t[k].op=16:=by simp at h5;omega
   have hz:max ((cN (t.take k)).getD t[k].a 0) (1+(cN (t.take k)).getD t[k].b 0)=dAt (cN (t.take k)) t[k]:=by unfold dAt;rw [if_neg h3',if_neg h4',if_pos h5']
   simp only [go_sem,aF,cM hk1,Int.toNat_natCast,hkn,hrl,hgets _ ga,hgets _ gb,w1,xW,hen _ hz,e5]
   refine ⟨by omega,by omega,by omega,by omega,by omega,by omega,k+1,by omega,by omega,?_⟩
   exact Z34
  ·have h5':¬ t[k].op=16:=by simp at h5;omega
   have hz:max ((cN (t.take k)).getD t[k].a 0) ((cN (t.take k)).getD t[k].b 0)=dAt (cN (t.take k)) t[k]:=by unfold dAt;rw [if_neg h3',if_neg h4',if_neg h5']
   simp only [go_sem,aF,cM hk1,Int.toNat_natCast,hkn,hrl,hgets _ ga,hgets _ gb,w1,xW,hen _ hz,e5]
   refine ⟨by omega,by omega,by omega,by omega,by omega,by omega,k+1,by omega,by omega,?_⟩
   exact Z34
 ·have hk1:k=t.length:=by simp at hc;omega
  subst hk1
  have hrl:=yH (t:=t) (Nat.le_refl _)
  have hfull:cN (t.take t.length)=cN t:=by rw [List.take_length]
  by_cases ht0:t=[]
  ·subst ht0
   have hd0:fL []=0:=rfl
   have d1:(((([]:List Nd).length:Nat):Int)==0)=true:=rfl
   have hcl2:=hcl1 0
   have hkk:((((0:Nat):Int))==0)=true:=rfl
   simp only [go_sem,hd0,yba,aF,zat,hkk]
   simp (disch:=first|exact Zd|omega) [↓zmk,beq,ybc,ybd,ybe,ag,wk,wk2,wk1,wkM,wkL,au,ybf,hcl,hcl2]
  have htp:=List.length_pos_iff.2 ht0
  have d1:((t.length:Int)==0)=false:=by simp;omega
  have e6:IntKind.i64.wrap ((t.length:Int) - 1)=((t.length - 1:Nat):Int):=by rw [wrap_i64]<;>omega
  have hge:=zY (t:=t) (Nat.le_refl _) (show t.length - 1<t.length by omega)
  rw [hfull,show (cN t).getD (t.length - 1) 0=fL t from rfl] at hge
  simp only [go_sem,aF,d1,e6,hrl,hge,Int.toNat_natCast]
  refine ⟨by omega,by omega,?_⟩
  exact Z35
end Go.AL
open Go Go.AL Go.Proofs
namespace Go.AL
set_option linter.all false
set_option maxRecDepth 10000
def tX:List AV→AHeap→(AV→Prop)→Prop
 |[.slice _ 7 x],_,K=>∃ t,(x=nds t∧Good t∧t.length≤1000)∧K (.int .i64 ((fL t:Nat):Int))
 |_,_,_=>False
theorem EG:EntOk Tryz.prog 284 (Ent.pure tX):=by
 refine EntOk.pure fun args H K h=>?_
 unfold tX at h
 split at h
 rotate_left
 ·exact h.elim
 rename_i m x
 obtain ⟨t,⟨rfl,hgt,hl⟩,hK⟩:=h
 refine ⟨_,hK,?_⟩
 clear hK
 refine ACalls.fW aB (TblOk.cons zC TblOk.nil) Tryz.func284 [.tmp 2] (Nat.le_refl _) (T:=aA [(7,[[],[],[],[],[2],[],[],[],[],[2,4,7]])]) (h:=fun hcl hlt=>?_)
 have hm:∀ n',H.nx≤n'→AV.lt n' (.slice m 7 (nds t)):=fun n' hn=>AV.lt_mono hn _ (hlt (.slice m 7 (nds t)) (by simp))
 clear hlt
 by_cases ht0:t=[]
 ·subst ht0
  have hd0:fL []=0:=rfl
  have hkk:((((0:Nat):Int))==0)=true:=rfl
  simp only [go_sem,hd0,yba,aF,zat,hkk]
  exact Z0
 have htp:=List.length_pos_iff.2 ht0
 have d1:((t.length:Int)==0)=false:=by simp;omega
 simp only [go_sem,aF,Int.toNat_natCast,d1]
 refine ay (A:=Nat) (fun k=>[(3,.slice (.own H.nx) 1 (its (cN (t.take k)))),(11,.slice m 7 (nds t)),(12,.int .i64 (t.length:Int)),(13,.int .i64 (k:Int))]) (fun k=>H.push (.buf 1 k)) (fun k=>k≤t.length) (fun k=>t.length - k) 0 (by omega) ?_ fun k hk=>?_
 ·have e0:its (cN (t.take 0))=[]:=rfl
  (simp only [bkq,enterW,aI,ltF,ne_eq,Nat.reduceEqDiff,reduceCtorEq,hm,e0];try simp (disch:=first|exact Zd|omega) [↓zmk,beq,ybc,ybd,ybe,ag,wk,wk2,wk1,wkM,wkL,au,ybf,byq,biq,ah,hcl,hm,e0];try (repeat' (first|assumption|omega|exact True.intro|refine And.intro ?_ ?_|refine af ?_|refine aa ?_|refine ae ?_ ?_|refine ai ?_ ?_|refine aj ?_|exact AHeap.Le.refl _|refine AHeap.Le.push ?_ _|refine AHeap.Le.del ?_ ?_|(simp only [bt,and_true,true_and,hm,e0];first|done|omega|(simp;done)))))
 have hcl1:∀ k,(H.push (.buf 1 k)).Closed:=fun k=>af hcl
 have hil:(its (cN (t.take k))).length=k:=by rw [fR,c6 hk]
 simp only [go_sem]
 refine aq (fun hc=>?_) (fun hc=>?_)
 ·have hk1:k<t.length:=by simp at hc;omega
  have e5:IntKind.i64.wrap ((k:Int)+1)=((k+1:Nat):Int):=by rw [wrap_i64]<;>omega
  obtain ⟨g1,g2,g3,g4⟩:=hgt k t[k] (by simp [hk1])
  have hkn:(H.nx=H.nx+1)=False:=eq_false (by omega)
  have hdl:∀ a,(cN (t.take k)).getD a 0≤k:=fun a=>sn (yl (by omega)) a
  have w1:∀ a,IntKind.i64.wrap ((((cN (t.take k)).getD a 0:Nat):Int)+1)=((1+(cN (t.take k)).getD a 0:Nat):Int):=fun a=>by
   have:=hdl a
   rw [wrap_i64]<;>omega
  simp only [go_sem,aF,cM hk1,Int.toNat_natCast,hkn,oM]
  refine ⟨by omega,cN (t.take k),⟨rfl,by omega,by rw [c6 hk],by rw [c6 hk];omega⟩,cN (t.take k),⟨rfl,by omega,by rw [c6 hk],by rw [c6 hk];omega⟩,?_⟩
  have hsn:∀ d:Nat,d=dAt (cN (t.take k)) t[k]→its (cN (t.take k))++[AV.int .i64 (d:Int)]=its (cN (t.take (k+1))):=fun d hd=>by rw [lf hk1,← hd,HC]
  have hsz:dAt (cN (t.take k)) t[k]=0→its (cN (t.take k))++[AV.int .i64 0]=its (cN (t.take (k+1))):=fun hd=>hsn 0 hd.symm
  have hb:=hdl t[k].a
  generalize hop:t[k].op=op at g1 g2 g4
  rcases (by omega:op=1∨op=2∨op=3∨op=4∨op=5∨op=16∨(6≤op∧op≤15)) with ho|ho|ho|ho|ho|ho|ho
  ·subst ho
   have b1:((((1:Nat):Int))==1)=true:=rfl
   have b2:((((1:Nat):Int))==2)=false:=rfl
   have b3:((((1:Nat):Int))==3)=false:=rfl
   have b4:((((1:Nat):Int))==4)=false:=rfl
   have b5:((((1:Nat):Int))==5)=false:=rfl
   have b16:((((1:Nat):Int))==16)=false:=rfl
   have hv:0=dAt (cN (t.take k)) t[k]:=by unfold dAt;rw [if_pos (by omega)]
   simp only [go_sem,aF,Int.toNat_natCast,hkn,hop,zat,zau,b1,b2,b3,b4,b5,b16,hil,w1,xW,e5,hsz hv.symm]
   refine ⟨⟨by omega,by omega,by simp [bI,AV.cells,AV.one]⟩,k+1,by omega,by omega,?_⟩
   exact Z36
  ·subst ho
   have b1:((((2:Nat):Int))==1)=false:=rfl
   have b2:((((2:Nat):Int))==2)=true:=rfl
   have b3:((((2:Nat):Int))==3)=false:=rfl
   have b4:((((2:Nat):Int))==4)=false:=rfl
   have b5:((((2:Nat):Int))==5)=false:=rfl
   have b16:((((2:Nat):Int))==16)=false:=rfl
   have hv:0=dAt (cN (t.take k)) t[k]:=by unfold dAt;rw [if_pos (by omega)]
   simp only [go_sem,aF,Int.toNat_natCast,hkn,hop,zat,zau,b1,b2,b3,b4,b5,b16,hil,w1,xW,e5,hsz hv.symm]
   refine ⟨⟨by omega,by omega,by simp [bI,AV.cells,AV.one]⟩,k+1,by omega,by omega,?_⟩
   exact Z36
  ·subst ho
   have b1:((((3:Nat):Int))==1)=false:=rfl
   have b2:((((3:Nat):Int))==2)=false:=rfl
   have b3:((((3:Nat):Int))==3)=true:=rfl
   have b4:((((3:Nat):Int))==4)=false:=rfl
   have b5:((((3:Nat):Int))==5)=false:=rfl
   have b16:((((3:Nat):Int))==16)=false:=rfl
   have hv:0=dAt (cN (t.take k)) t[k]:=by unfold dAt;rw [if_pos (by omega)]
   simp only [go_sem,aF,Int.toNat_natCast,hkn,hop,zat,zau,b1,b2,b3,b4,b5,b16,hil,w1,xW,e5,hsz hv.symm]
   refine ⟨⟨by omega,by omega,by simp [bI,AV.cells,AV.one]⟩,k+1,by omega,by omega,?_⟩
   exact Z36
  ·subst ho
   have b1:((((4:Nat):Int))==1)=false:=rfl
   have b2:((((4:Nat):Int))==2)=false:=rfl
   have b3:((((4:Nat):Int))==3)=false:=rfl
   have b4:((((4:Nat):Int))==4)=true:=rfl
   have b5:((((4:Nat):Int))==5)=false:=rfl
   have b16:((((4:Nat):Int))==16)=false:=rfl
   have hv:1+(cN (t.take k)).getD t[k].a 0=dAt (cN (t.take k)) t[k]:=by unfold dAt;rw [if_neg (by omega),if_pos (by omega)]
   simp only [go_sem,aF,Int.toNat_natCast,hkn,hop,zat,zau,b1,b2,b3,b4,b5,b16,hil,w1,xW,e5,hsn _ hv]
   refine ⟨⟨by omega,by omega,by simp [bI,AV.cells,AV.one]⟩,k+1,by omega,by omega,?_⟩
   exact Z36
  ·subst ho
   have b1:((((5:Nat):Int))==1)=false:=rfl
   have b2:((((5:Nat):Int))==2)=false:=rfl
   have b3:((((5:Nat):Int))==3)=false:=rfl
   have b4:((((5:Nat):Int))==4)=false:=rfl
   have b5:((((5:Nat):Int))==5)=true:=rfl
   have b16:((((5:Nat):Int))==16)=false:=rfl
   have hv:1+(cN (t.take k)).getD t[k].a 0=dAt (cN (t.take k)) t[k]:=by unfold dAt;rw [if_neg (by omega),if_pos (by omega)]
   simp only [go_sem,aF,Int.toNat_natCast,hkn,hop,zat,zau,b1,b2,b3,b4,b5,b16,hil,w1,xW,e5,hsn _ hv]
   refine ⟨⟨by omega,by omega,by simp [bI,AV.cells,AV.one]⟩,k+1,by omega,by omega,?_⟩
   exact Z36
  ·subst ho
   have b1:((((16:Nat):Int))==1)=false:=rfl
   have b2:((((16:Nat):Int))==2)=false:=rfl
   have b3:((((16:Nat):Int))==3)=false:=rfl
   have b4:((((16:Nat):Int))==4)=false:=rfl
   have b5:((((16:Nat):Int))==5)=false:=rfl
   have b16:((((16:Nat):Int))==16)=true:=rfl
   have hv:max ((cN (t.take k)).getD t[k].a 0) (1+(cN (t.take k)).getD t[k].b 0)=dAt (cN (t.take k)) t[k]:=by unfold dAt;rw [if_neg (by omega),if_neg (by omega),if_pos (by omega)]
   simp only [go_sem,aF,Int.toNat_natCast,hkn,hop,zat,zau,b1,b2,b3,b4,b5,b16,hil,w1,xW,e5,hsn _ hv]
   refine ⟨⟨by omega,by omega,by simp [bI,AV.cells,AV.one]⟩,k+1,by omega,by omega,?_⟩
   exact Z36
  ·have b1:((op:Int)==1)=false:=by simp;omega
   have b2:((op:Int)==2)=false:=by simp;omega
   have b3:((op:Int)==3)=false:=by simp;omega
   have b4:((op:Int)==4)=false:=by simp;omega
   have b5:((op:Int)==5)=false:=by simp;omega
   have b16:((op:Int)==16)=false:=by simp;omega
   have hv:max ((cN (t.take k)).getD t[k].a 0) ((cN (t.take k)).getD t[k].b 0)=dAt (cN (t.take k)) t[k]:=by unfold dAt;rw [if_neg (by omega),if_neg (by omega),if_neg (by omega)]
   simp only [go_sem,aF,Int.toNat_natCast,hkn,hop,zat,zau,b1,b2,b3,b4,b5,b16,hil,w1,xW,e5,hsn _ hv]
   refine ⟨⟨by omega,by omega,by simp [bI,AV.cells,AV.one]⟩,k+1,by omega,by omega,?_⟩
   exact Z36
 ·have hk1:k=t.length:=by simp at hc;omega
  subst hk1
  have e6:IntKind.i64.wrap ((t.length:Int) - 1)=((t.length - 1:Nat):Int):=by rw [wrap_i64]<;>omega
  have hge:=xF (d:=cN t) (a:=t.length - 1) (by rw [G0];omega)
  rw [show (cN t).getD (t.length - 1) 0=fL t from rfl] at hge
  rw [List.take_length] at hil
  simp only [go_sem,aF,List.take_length,hil,e6,hge,Int.toNat_natCast]
  refine ⟨by omega,?_⟩
  exact Z35
end Go.AL
open Go Go.AL Go.Proofs
namespace Go.AL
set_option linter.all false
set_option maxRecDepth 10000
theorem gg {A:Prop} {g:FuncId} {rl:Rl}:EntOk Tryz.prog g (Ent.some (aP A rl 0)):=by
 refine EntOk.some fun args H K h=>?_
 unfold aP at h
 split at h
 ·obtain ⟨m,l,p,b,tb,t,hg,hpre,hK⟩:=h
  exact hK.elim
 ·exact h.elim
structure RulesR (A:Prop) (f:Nat):Prop where
 imp:EntOk Tryz.prog 411 (Ent.some (fZ A f))
 or:EntOk Tryz.prog 469 (Ent.some (ow A f))
 and:EntOk Tryz.prog 488 (Ent.some (kT A f))
 not:EntOk Tryz.prog 496 (Ent.some (gW A f))
 cmp:EntOk Tryz.prog 499 (Ent.some (ph A f))
 sum:EntOk Tryz.prog 503 (Ent.some (kZ A f))
 un:EntOk Tryz.prog 506 (Ent.some (jp A f))
 atom:EntOk Tryz.prog 508 (Ent.some (l9 A f))
theorem v3 {A:Prop} (hV:∀ f,EntOk Tryz.prog 512 (Ent.some (mK A f))):∀ f,RulesR A f
 |0=>⟨gg,gg,gg,gg,gg,gg,gg,gg⟩
 |f+1=>have h:=v3 hV f
  ⟨Jz h.or h.imp,J0 h.and,I1 h.not,Jq h.not h.cmp,IE h.sum,HO h.un,J2 h.un h.atom,Fc (hV f) h.imp⟩
def pt (t:List Nd):Bool:=decide (120<t.length)||decide (12<fL t)
def iC (l:List Tok):PR→AV
 |.ok _ p t=>if p<l.length then .tup [.slice .any 7 [],.int .i64 (p:Int),.int .i64 10] else if pt t=true then .tup [.slice .any 7 [],.int .i64 0,.int .i64 11] else .tup [.slice .any 7 (nds t),.int .i64 0,.int .i64 0]
 |.bad p=>.tup [.slice .any 7 [],.int .i64 (p:Int),.int .i64 10]
def ux (A:Prop) (_g:Nat):List AV→AHeap→(AV→AHeap→Prop)→Prop
 |[.slice _ 3 x],H,K=>∃ l f r,(x=cU l∧run l f .imp 0 []=some r∧l.length≤1000∧oq l∧Cd A l)∧K (iC l r) H
 |_,_,_=>False
def tM:List AV→AHeap→(AV→Prop)→Prop
 |[.slice _ 3 x],H,K=>∃ l f r,(x=cU l∧run l f .imp 0 []=some r∧l.length≤1000∧oq l)∧K (iC l r)
 |_,_,_=>False
theorem D4:EntOk Tryz.prog 124 (Ent.pure tM):=by
 refine EntOk.pure fun args H K h=>?_
 unfold tM at h
 split at h
 rotate_left
 ·exact h.elim
 rename_i m x
 obtain ⟨l,f,r,⟨rfl,hr,hl,hgl⟩,hK⟩:=h
 refine ⟨_,hK,?_⟩
 clear hK
 have hw:=aX f hr Good.nil trivial (Nat.zero_le _)
 refine ACalls.fW aB (TblOk.cons Hf (TblOk.cons EG TblOk.nil)) Tryz.func124 [.tmp 2,.tmp 3,.tmp 4] (Nat.le_refl _) (T:=aA []) (h:=fun hcl hlt=>?_)
 clear hlt
 simp only [go_sem,xt]
 refine ⟨l,f,r,⟨rfl,hr,hl,hgl⟩,?_⟩
 cases r with
 |bad q =>
  simp only [go_sem,re,iC]
  exact Z14
 |ok a p t =>
  obtain ⟨k1,k2,k3,k4,k5,k6⟩:=hw
  simp only [re,iC]
  by_cases hp:p<l.length
  ·simp only [if_pos hp,go_sem]
   exact Z14
  ·have ht:t.length≤1000:=by simp at k3;omega
   simp only [if_neg hp,go_sem,aF]
   by_cases h1:120<t.length
   ·have hb:pt t=true:=by unfold pt;simp [h1]
    have d1:decide ((t.length:Int) > 120)=true:=by simp;omega
    rw [if_pos hb]
    simp only [d1,go_sem]
    exact Z14
   ·have d1:decide ((t.length:Int) > 120)=false:=by simp;omega
    simp only [d1,go_sem,tX]
    refine ⟨t,⟨rfl,k5,ht⟩,?_⟩
    by_cases h2:12<fL t
    ·have hb:pt t=true:=by unfold pt;simp [h2]
     have d2:decide (((fL t:Nat):Int) > 12)=true:=by simp;omega
     rw [if_pos hb]
     simp only [d2,go_sem]
     exact Z14
    ·have hb:¬ pt t=true:=by unfold pt;simp;omega
     have d2:decide (((fL t:Nat):Int) > 12)=false:=by simp;omega
     rw [if_neg hb]
     simp only [d2,go_sem]
     simp (disch:=first|exact Zd|omega) [↓zmk,beq,ybc,ybd,ybe,ag,wk,wk2,wk1,wkM,wkL,au,ybf,hcl,jx]
end Go.AL
