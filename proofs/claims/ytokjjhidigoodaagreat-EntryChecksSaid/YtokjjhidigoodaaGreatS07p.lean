/- Lemmas of the proof; no condition. -/
import Derived.Test.YtokjjhidigoodaaGreatS07u
import Derived.Test.YtokjjhidigoodaaGreatS07d
import Derived.Test.YtokjjhidigoodaaGreatLSyn2
set_option linter.all false
set_option maxRecDepth 10000
set_option maxHeartbeats 32000000
open List renaming map_cons → yae, length_cons → yaz, length_nil → yba, take_of_length_le → ybc, drop_append → ybd, take_append → ybe, drop_eq_nil_of_le → ybf, cons_append → yal
open Go Go.AL Go.Proofs
namespace Go.AL
def its (d:List Nat):List AV:=d.map fun (n:Nat)=>.int .i64 (n:Int)
theorem gT {d:List Nat}:(its d).length=d.length:=by simp [its]
theorem zb {d:List Nat} {a:Nat} (h:a<d.length):(its d).getD a .junk=.int .i64 ((d.getD a 0:Nat):Int):=by
 simp [its,gEq,h]
theorem IP {d:List Nat} {n:Nat}:its d++[.int .i64 (n:Int)]=its (d++[n]):=by simp [its]
theorem LJ {n:Nat} {d:List Nat}:ltL n (its d):=by
 induction d with
 |nil=>simp [its,znr]
 |cons a d ih=>simp only [its,yae,znq,znb,true_and];exact ih
theorem du {n:Nat} {m:Mark} {d:List Nat}:AV.lt n (.slice m 1 (its d))=∀ id,m=.own id→id<n:=by
 rw [AV.lt]
 refine propext ⟨fun h=>h.1,fun h=>⟨h,fun j hj=>?_⟩⟩
 simp only [its,List.getElem_map]
 simp [znb]
theorem c7 {t:List Nd} {k:Nat} (h:k<t.length):(nds t).getD k .junk=.agg [.int .i64 (t[k].op:Int),.int .i64 (t[k].a:Int),.int .i64 (t[k].b:Int),.str t[k].name,.str t[k].attr,.int .u64 ((t[k].v/2^64:Nat):Int),.int .u64 ((t[k].v % 2^64:Nat):Int)]:=by
 simp [nds,kL,gEq,h]
def qI:List AV→AHeap→(AV→Prop)→Prop
 |[.slice _ 1 x,.int .i64 a,.int .i64 i],_,K=>∃ d,(x=its d∧0≤a∧i=(d.length:Int)∧d.length≤100000)∧K (.int .i64 ((d.getD a.toNat 0:Nat):Int))
 |_,_,_=>False
theorem Bf:EntOk Tryz.prog 400 (Ent.pure qI):=by
 refine Ype fun _ H K h=>?_
 unfold qI at h
 split at h
 rotate_left
 ·exact h.elim
 rename_i m x a i
 obtain ⟨d,⟨rfl,h1,rfl,hd⟩,hK⟩:=h
 refine ⟨_,hK,?_⟩
 clear hK
 obtain ⟨a,rfl⟩:=bj h1
 simp only [iNq]
 refine Yfv ax tNq Tryz.func400 [.tmp 6] fun hcl hlt=>?_
 clear hlt
 have d1:decide ((a:Int)<0)=false:=by simp
 by_cases ha:a<d.length
 ·have d2:decide ((a:Int) ≥ (d.length:Int))=false:=by simp;omega
  simp only [go_sem,gT,d1,d2,zb ha,iNq]
  exact Y34
 ·have d2:decide ((a:Int) ≥ (d.length:Int))=true:=by simp;omega
  have e:d.getD a 0=0:=by rw [gEq,gNq (by omega)];rfl
  simp only [go_sem,gT,d1,d2,e]
  exact Z0
def ns (t:List Nd) (k:Nat):List AV:=its (dd (t.take k))++its (List.replicate (t.length - k) 0)
theorem BK {t:List Nd} {k:Nat} (h:k≤t.length):(ns t k).length=t.length:=by
 simp only [ns,lAq,gT,dB h,List.length_replicate];omega
theorem eN {n:Nat} {t:List Nd} {k:Nat}:ltL n (ns t k):=by
 unfold ns its
 rw [← List.map_append]
 exact LJ
theorem Cm {t:List Nd} {k a:Nat} (h:k≤t.length) (ha:a<k):(ns t k).getD a .junk=.int .i64 (((dd (t.take k)).getD a 0:Nat):Int):=by
 have h1:a<(dd (t.take k)).length:=by rw [dB h];exact ha
 rw [gEq,ns,List.getElem?_append_left (by rw [gT];exact h1)]
 simp [its,gEq,h1]
theorem xN:∀ (A:List AV) (x v:AV) (B:List AV),splice (A++x::B) A.length [v]=A++v::B
 |[],x,v,B=>by cases B<;>rfl
 |c::A,x,v,B=>by
  have:=xN A x v B
  simp only [yal,yaz,splice]
  rw [this]
theorem KD {t:List Nd} {k d:Nat} (h:k<t.length) (hd:d=dAt (dd (t.take k)) t[k]):splice (ns t k) k [.int .i64 (d:Int)]=ns t (k+1):=by
 have hl:(its (dd (t.take k))).length=k:=by rw [gT,dB (by omega)]
 have e:t.length - k=(t.length - (k+1))+1:=by omega
 unfold ns
 rw [mI h,e,List.replicate_succ,← hd]
 have h2:=xN (its (dd (t.take k))) (.int .i64 ((0:Nat):Int)) (.int .i64 (d:Int)) (its (List.replicate (t.length - (k+1)) 0))
 rw [hl] at h2
 rw [show its (0::List.replicate (t.length - (k+1)) 0)=.int .i64 ((0:Nat):Int)::its (List.replicate (t.length - (k+1)) 0) from rfl,h2]
 simp [its]
theorem G5 {t:List Nd} {k:Nat} (h:k<t.length) (hd:dAt (dd (t.take k)) t[k]=0):ns t k=ns t (k+1):=by
 have e:t.length - k=(t.length - (k+1))+1:=by omega
 unfold ns
 rw [mI h,e,List.replicate_succ,hd]
 simp [its]
theorem NA {t:List Nd}:(List.replicate t.length [AV.int .i64 0]).flatten=ns t 0:=by
 unfold ns
 have:∀ n:Nat,(List.replicate n [AV.int .i64 0]).flatten=its (List.replicate n 0):=fun n=>by
  induction n with
  |zero=>rfl
  |succ n ih=>rw [List.replicate_succ,List.replicate_succ,List.flatten_cons,ih];rfl
 rw [this];simp [dd,its]
theorem zY {a b:Nat}:max (a:Int) (b:Int)=((max a b:Nat):Int):=by omega
def pi:List AV→AHeap→(AV→Prop)→Prop
 |[.slice _ 7 x],_,K=>∃ t,(x=nds t∧Good t∧t.length≤1000)∧K (.int .i64 ((gN t:Nat):Int))
 |_,_,_=>False
theorem FF:EntOk Tryz.prog 412 (Ent.pure pi):=by
 refine Ype fun _ H K h=>?_
 unfold pi at h
 split at h
 rotate_left
 ·exact h.elim
 rename_i m x
 obtain ⟨t,⟨rfl,hgt,hl⟩,hK⟩:=h
 refine ⟨_,hK,?_⟩
 clear hK
 refine ACalls.fW ax tNq Tryz.func412 [.tmp 2] (nrq _) (T:=av [(10,[[],[],[],[],[],[],[],[],[],[],[],[],[],[],[],[4,6,9,11]]),(5,[[],[],[],[],[],[],[],[],[],[],[],[],[],[],[4,6,9,11]])]) (h:=fun hcl hlt=>?_)
 have hm:∀ n',H.nx≤n'→AV.lt n' (.slice m 7 (nds t)):=fun n' hn=>AV.lt_mono hn _ (hlt (.slice m 7 (nds t)) (by simp))
 clear hlt
 simp only [go_sem,aJ,iNq,NA]
 refine ⟨by omega,?_⟩
 refine az (A:=Nat) (fun k=>[(0,.slice m 7 (nds t)),(3,.ms H.nx 0 1 t.length),(9,.slice m 7 (nds t)),(10,.int .i64 (t.length:Int)),(11,.int .i64 (k:Int))]) (fun k=>H.push (.cells (ns t k))) (fun k=>k≤t.length) (fun k=>t.length - k) 0 (by omega) ?_ fun k hk=>?_
 ·exact Z36
 have hcl1:∀ k,(H.push (.cells (ns t k))).Closed:=fun k=>ae hcl eN
 simp only [go_sem]
 refine au (fun hc=>?_) (fun hc=>?_)
 ·have hk1:k<t.length:=by simp at hc;omega
  have e5:=Yk5 k
  obtain ⟨g1,g2,g3,g4⟩:=hgt k t[k] (by simp [hk1])
  have hrl:=BK (t:=t) (k:=k) (by omega)
  have hgets:∀ a,a<k→(ns t k).getD a .junk=.int .i64 (((dd (t.take k)).getD a 0:Nat):Int):=fun a ha=>Cm (by omega) ha
  have hkn:(H.nx=H.nx+1)=False:=eq_false (by omega)
  have hen:∀ d:Nat,d=dAt (dd (t.take k)) t[k]→splice (ns t k) k [.int .i64 (d:Int)]=ns t (k+1):=fun d hd=>KD hk1 hd
  have hdl:∀ a,(dd (t.take k)).getD a 0≤k:=fun a=>uW (zv (by omega)) a
  have w1:∀ a,IntKind.i64.wrap (1+(((dd (t.take k)).getD a 0:Nat):Int))=((1+(dd (t.take k)).getD a 0:Nat):Int):=fun a=>by
   have:=hdl a
   rw [wrap_i64]<;>omega
  simp only [go_sem,aJ,c7 hk1,iNq,hkn]
  refine ⟨by omega,?_⟩
  refine au (fun h3=>?_) (fun h3=>?_)
  ·have h3':t[k].op≤3:=by simp at h3;omega
   have hz:dAt (dd (t.take k)) t[k]=0:=by unfold dAt;rw [if_pos h3']
   try simp only [go_sem]
   refine ⟨k+1,by omega,by omega,?_⟩
   rw [← G5 hk1 hz]
   exact Z36
  have h3':¬ t[k].op≤3:=by simp at h3;omega
  obtain ⟨ga,gb⟩:t[k].a<k∧t[k].b<k:=g4.resolve_left h3'
  simp only [go_sem,aJ,c7 hk1,iNq,hkn]
  refine au (fun h4=>?_) (fun h4=>?_)
  ·have h4':t[k].op≤5:=by simp at h4;omega
   have hz:1+(dd (t.take k)).getD t[k].a 0=dAt (dd (t.take k)) t[k]:=by unfold dAt;rw [if_neg h3',if_pos h4']
   simp only [go_sem,aJ,c7 hk1,iNq,hkn,hrl,hgets _ ga,w1,hen _ hz,e5]
   refine ⟨by omega,by omega,by omega,by omega,k+1,by omega,by omega,?_⟩
   exact Z36
  have h4':¬ t[k].op≤5:=by simp at h4;omega
  simp only [go_sem,aJ,c7 hk1,iNq,hkn]
  refine au (fun h5=>?_) (fun h5=>?_)
  ·have h5':t[k].op=16:=by simp at h5;omega
   have hz:max ((dd (t.take k)).getD t[k].a 0) (1+(dd (t.take k)).getD t[k].b 0)=dAt (dd (t.take k)) t[k]:=by unfold dAt;rw [if_neg h3',if_neg h4',if_pos h5']
   exact Y92
  ·have h5':¬ t[k].op=16:=by simp at h5;omega
   have hz:max ((dd (t.take k)).getD t[k].a 0) ((dd (t.take k)).getD t[k].b 0)=dAt (dd (t.take k)) t[k]:=by unfold dAt;rw [if_neg h3',if_neg h4',if_neg h5']
   exact Y92
 ·have hk1:k=t.length:=by simp at hc;omega
  subst hk1
  have hrl:=BK (t:=t) (nrq _)
  have hfull:dd (t.take t.length)=dd t:=by rw [List.take_length]
  by_cases ht0:t=[]
  ·subst ht0
   have hd0:gN []=0:=rfl
   have d1:(((([]:List Nd).length:Nat):Int)==0)=true:=rfl
   have hcl2:=hcl1 0
   have hkk:((((0:Nat):Int))==0)=true:=rfl
   simp only [go_sem,hd0,yba,aJ,zat,hkk]
   simp (disch:=first|exact Zd|omega) [↓zmk,beq,ybc,ybd,ybe,af,wk,wk2,wk1,wkM,wkL,aj,ybf,hcl,hcl2]
  have htp:=List.length_pos_iff.2 ht0
  have d1:((t.length:Int)==0)=false:=by simp;omega
  have e6:IntKind.i64.wrap ((t.length:Int) - 1)=((t.length - 1:Nat):Int):=by rw [wrap_i64]<;>omega
  have hge:=Cm (t:=t) (nrq _) (show t.length - 1<t.length by omega)
  rw [hfull,show (dd t).getD (t.length - 1) 0=gN t from rfl] at hge
  simp only [go_sem,aJ,d1,e6,hrl,hge,iNq]
  refine ⟨by omega,by omega,?_⟩
  exact Z37
def wl:List AV→AHeap→(AV→Prop)→Prop
 |[.slice _ 7 x],_,K=>∃ t,(x=nds t∧Good t∧t.length≤1000)∧K (.int .i64 ((gN t:Nat):Int))
 |_,_,_=>False
theorem FW:EntOk Tryz.prog 284 (Ent.pure wl):=by
 refine Ype fun _ H K h=>?_
 unfold wl at h
 split at h
 rotate_left
 ·exact h.elim
 rename_i m x
 obtain ⟨t,⟨rfl,hgt,hl⟩,hK⟩:=h
 refine ⟨_,hK,?_⟩
 clear hK
 refine ACalls.fW ax (tCq Bf tNq) Tryz.func284 [.tmp 2] (nrq _) (T:=av [(7,[[],[],[],[],[2],[],[],[],[],[2,4,7]])]) (h:=fun hcl hlt=>?_)
 have hm:∀ n',H.nx≤n'→AV.lt n' (.slice m 7 (nds t)):=fun n' hn=>AV.lt_mono hn _ (hlt (.slice m 7 (nds t)) (by simp))
 clear hlt
 by_cases ht0:t=[]
 ·subst ht0
  have hd0:gN []=0:=rfl
  have hkk:((((0:Nat):Int))==0)=true:=rfl
  simp only [go_sem,hd0,yba,aJ,zat,hkk]
  exact Z0
 have htp:=List.length_pos_iff.2 ht0
 have d1:((t.length:Int)==0)=false:=by simp;omega
 simp only [go_sem,aJ,iNq,d1]
 refine az (A:=Nat) (fun k=>[(3,.slice (.own H.nx) 1 (its (dd (t.take k)))),(11,.slice m 7 (nds t)),(12,.int .i64 (t.length:Int)),(13,.int .i64 (k:Int))]) (fun k=>H.push (.buf 1 k)) (fun k=>k≤t.length) (fun k=>t.length - k) 0 (by omega) ?_ fun k hk=>?_
 ·have e0:its (dd (t.take 0))=[]:=rfl
  (simp only [bkq,enterW,aK,ltF,ne_eq,Nat.reduceEqDiff,reduceCtorEq,hm,e0];try simp (disch:=first|exact Zd|omega) [↓zmk,beq,ybc,ybd,ybe,af,wk,wk2,wk1,wkM,wkL,aj,ybf,byq,biq,ah,hcl,hm,e0];try (repeat' (first|assumption|omega|exact True.intro|refine And.intro ?_ ?_|refine ag ?_|refine aa ?_|refine ae ?_ ?_|refine ai ?_ ?_|refine aq ?_|exact lRq _|refine lPq ?_ _|refine AHeap.Le.del ?_ ?_|(simp only [bt,and_true,true_and,hm,e0];first|done|omega|(simp;done)))))
 have hcl1:∀ k,(H.push (.buf 1 k)).Closed:=fun k=>ag hcl
 have hil:(its (dd (t.take k))).length=k:=by rw [gT,dB hk]
 simp only [go_sem]
 refine au (fun hc=>?_) (fun hc=>?_)
 ·have hk1:k<t.length:=by simp at hc;omega
  have e5:=Yk5 k
  obtain ⟨g1,g2,g3,g4⟩:=hgt k t[k] (by simp [hk1])
  have hkn:(H.nx=H.nx+1)=False:=eq_false (by omega)
  have hdl:∀ a,(dd (t.take k)).getD a 0≤k:=fun a=>uW (zv (by omega)) a
  have w1:∀ a,IntKind.i64.wrap ((((dd (t.take k)).getD a 0:Nat):Int)+1)=((1+(dd (t.take k)).getD a 0:Nat):Int):=fun a=>by
   have:=hdl a
   rw [wrap_i64]<;>omega
  simp only [go_sem,aJ,c7 hk1,iNq,hkn,qI]
  refine ⟨by omega,dd (t.take k),⟨rfl,by omega,by rw [dB hk],by rw [dB hk];omega⟩,dd (t.take k),⟨rfl,by omega,by rw [dB hk],by rw [dB hk];omega⟩,?_⟩
  have hsn:∀ d:Nat,d=dAt (dd (t.take k)) t[k]→its (dd (t.take k))++[AV.int .i64 (d:Int)]=its (dd (t.take (k+1))):=fun d hd=>by rw [mI hk1,← hd,IP]
  have hsz:dAt (dd (t.take k)) t[k]=0→its (dd (t.take k))++[AV.int .i64 0]=its (dd (t.take (k+1))):=fun hd=>hsn 0 hd.symm
  have hb:=hdl t[k].a
  generalize hop:t[k].op=op at g1 g2 g4
  rcases (by omega:op=1∨op=2∨op=3∨op=4∨op=5∨op=16∨(6≤op∧op≤15)) with ho|ho|ho|ho|ho|ho|ho
  ·subst ho
   have b1:((((1:Nat):Int))==1)=true:=rfl
   have b2:((((1:Nat):Int))==2)=false:=rfl
   have b3:((((1:Nat):Int))==3)=false:=rfl
   have b4:((((1:Nat):Int))==4)=false:=rfl
   have b5:((((1:Nat):Int))==5)=false:=rfl
   have b16:((((1:Nat):Int))==16)=false:=rfl
   have hv:0=dAt (dd (t.take k)) t[k]:=by unfold dAt;rw [if_pos (by omega)]
   simp only [go_sem,aJ,iNq,hkn,hop,zat,zau,b1,b2,b3,b4,b5,b16,hil,w1,zY,e5,hsz hv.symm]
   exact Y32
  ·subst ho
   have b1:((((2:Nat):Int))==1)=false:=rfl
   have b2:((((2:Nat):Int))==2)=true:=rfl
   have b3:((((2:Nat):Int))==3)=false:=rfl
   have b4:((((2:Nat):Int))==4)=false:=rfl
   have b5:((((2:Nat):Int))==5)=false:=rfl
   have b16:((((2:Nat):Int))==16)=false:=rfl
   have hv:0=dAt (dd (t.take k)) t[k]:=by unfold dAt;rw [if_pos (by omega)]
   simp only [go_sem,aJ,iNq,hkn,hop,zat,zau,b1,b2,b3,b4,b5,b16,hil,w1,zY,e5,hsz hv.symm]
   exact Y32
  ·subst ho
   have b1:((((3:Nat):Int))==1)=false:=rfl
   have b2:((((3:Nat):Int))==2)=false:=rfl
   have b3:((((3:Nat):Int))==3)=true:=rfl
   have b4:((((3:Nat):Int))==4)=false:=rfl
   have b5:((((3:Nat):Int))==5)=false:=rfl
   have b16:((((3:Nat):Int))==16)=false:=rfl
   have hv:0=dAt (dd (t.take k)) t[k]:=by unfold dAt;rw [if_pos (by omega)]
   simp only [go_sem,aJ,iNq,hkn,hop,zat,zau,b1,b2,b3,b4,b5,b16,hil,w1,zY,e5,hsz hv.symm]
   exact Y32
  ·subst ho
   have b1:((((4:Nat):Int))==1)=false:=rfl
   have b2:((((4:Nat):Int))==2)=false:=rfl
   have b3:((((4:Nat):Int))==3)=false:=rfl
   have b4:((((4:Nat):Int))==4)=true:=rfl
   have b5:((((4:Nat):Int))==5)=false:=rfl
   have b16:((((4:Nat):Int))==16)=false:=rfl
   have hv:1+(dd (t.take k)).getD t[k].a 0=dAt (dd (t.take k)) t[k]:=by unfold dAt;rw [if_neg (by omega),if_pos (by omega)]
   exact Y30
  ·subst ho
   have b1:((((5:Nat):Int))==1)=false:=rfl
   have b2:((((5:Nat):Int))==2)=false:=rfl
   have b3:((((5:Nat):Int))==3)=false:=rfl
   have b4:((((5:Nat):Int))==4)=false:=rfl
   have b5:((((5:Nat):Int))==5)=true:=rfl
   have b16:((((5:Nat):Int))==16)=false:=rfl
   have hv:1+(dd (t.take k)).getD t[k].a 0=dAt (dd (t.take k)) t[k]:=by unfold dAt;rw [if_neg (by omega),if_pos (by omega)]
   exact Y30
  ·subst ho
   have b1:((((16:Nat):Int))==1)=false:=rfl
   have b2:((((16:Nat):Int))==2)=false:=rfl
   have b3:((((16:Nat):Int))==3)=false:=rfl
   have b4:((((16:Nat):Int))==4)=false:=rfl
   have b5:((((16:Nat):Int))==5)=false:=rfl
   have b16:((((16:Nat):Int))==16)=true:=rfl
   have hv:max ((dd (t.take k)).getD t[k].a 0) (1+(dd (t.take k)).getD t[k].b 0)=dAt (dd (t.take k)) t[k]:=by unfold dAt;rw [if_neg (by omega),if_neg (by omega),if_pos (by omega)]
   exact Y30
  ·have b1:((op:Int)==1)=false:=by simp;omega
   have b2:((op:Int)==2)=false:=by simp;omega
   have b3:((op:Int)==3)=false:=by simp;omega
   have b4:((op:Int)==4)=false:=by simp;omega
   have b5:((op:Int)==5)=false:=by simp;omega
   have b16:((op:Int)==16)=false:=by simp;omega
   have hv:max ((dd (t.take k)).getD t[k].a 0) ((dd (t.take k)).getD t[k].b 0)=dAt (dd (t.take k)) t[k]:=by unfold dAt;rw [if_neg (by omega),if_neg (by omega),if_neg (by omega)]
   exact Y30
 ·have hk1:k=t.length:=by simp at hc;omega
  subst hk1
  have e6:IntKind.i64.wrap ((t.length:Int) - 1)=((t.length - 1:Nat):Int):=by rw [wrap_i64]<;>omega
  have hge:=zb (d:=dd t) (a:=t.length - 1) (by rw [I2];omega)
  rw [show (dd t).getD (t.length - 1) 0=gN t from rfl] at hge
  rw [List.take_length] at hil
  simp only [go_sem,aJ,List.take_length,hil,e6,hge,iNq]
  refine ⟨by omega,?_⟩
  exact Z37
theorem gX {A:Prop} {g:FuncId} {rl:Rl}:EntOk Tryz.prog g (Ent.some (aW A rl 0)):=by
 refine EntOk.some fun args H K h=>?_
 unfold aW at h
 split at h
 ·obtain ⟨m,l,p,b,tb,t,hg,hpre,hK⟩:=h
  exact hK.elim
 ·exact h.elim
structure RulesR (A:Prop) (f:Nat):Prop where
 imp:EntOk Tryz.prog 411 (Ent.some (gY A f))
 or:EntOk Tryz.prog 469 (Ent.some (qi A f))
 and:EntOk Tryz.prog 488 (Ent.some (mw A f))
 not:EntOk Tryz.prog 496 (Ent.some (iX A f))
 cmp:EntOk Tryz.prog 499 (Ent.some (qT A f))
 sum:EntOk Tryz.prog 503 (Ent.some (mF A f))
 un:EntOk Tryz.prog 506 (Ent.some (kx A f))
 atom:EntOk Tryz.prog 508 (Ent.some (nB A f))
theorem yM {A:Prop} (hV:∀ f,EntOk Tryz.prog 512 (Ent.some (om A f))):∀ f,RulesR A f
 |0=>⟨gX,gX,gX,gX,gX,gX,gX,gX⟩
 |f+1=>have h:=yM hV f
  ⟨LF h.or h.imp,Ns h.and,LX h.not,K7 h.not h.cmp,MJ h.sum,MP h.un,Nu h.un h.atom,Ji (hV f) h.imp⟩
def sA (t:List Nd):Bool:=decide (120<t.length)||decide (12<gN t)
def jy (l:List Tok):PR→AV
 |.ok _ p t=>if p<l.length then .tup [.slice .any 7 [],.int .i64 (p:Int),.int .i64 10] else if sA t=true then .tup [.slice .any 7 [],.int .i64 0,.int .i64 11] else .tup [.slice .any 7 (nds t),.int .i64 0,.int .i64 0]
 |.bad p=>.tup [.slice .any 7 [],.int .i64 (p:Int),.int .i64 10]
def vV (A:Prop) (_g:Nat):List AV→AHeap→(AV→AHeap→Prop)→Prop
 |[.slice _ 3 x],H,K=>∃ l f r,(x=dr l∧run l f .imp 0 []=some r∧l.length≤1000∧qd l∧Fg A l)∧K (jy l r) H
 |_,_,_=>False
def wP:List AV→AHeap→(AV→Prop)→Prop
 |[.slice _ 3 x],H,K=>∃ l f r,(x=dr l∧run l f .imp 0 []=some r∧l.length≤1000∧qd l)∧K (jy l r)
 |_,_,_=>False
theorem Fz:EntOk Tryz.prog 124 (Ent.pure wP):=by
 refine Ype fun _ H K h=>?_
 unfold wP at h
 split at h
 rotate_left
 ·exact h.elim
 rename_i m x
 obtain ⟨l,f,r,⟨rfl,hr,hl,hgl⟩,hK⟩:=h
 refine ⟨_,hK,?_⟩
 clear hK
 have hw:=br f hr Good.nil trivial (Nat.zero_le _)
 refine Yfv ax (tCq I0 (tCq FW tNq)) Tryz.func124 [.tmp 2,.tmp 3,.tmp 4] fun hcl hlt=>?_
 clear hlt
 simp only [go_sem,zT]
 refine ⟨l,f,r,⟨rfl,hr,hl,hgl⟩,?_⟩
 cases r with
 |bad q =>
  simp only [go_sem,tE,jy]
  exact Z16
 |ok a p t =>
  obtain ⟨k1,k2,k3,k4,k5,k6⟩:=hw
  simp only [tE,jy]
  by_cases hp:p<l.length
  ·simp only [if_pos hp,go_sem]
   exact Z16
  ·have ht:t.length≤1000:=by simp at k3;omega
   simp only [if_neg hp,go_sem,aJ]
   by_cases h1:120<t.length
   ·have hb:sA t=true:=by unfold sA;simp [h1]
    have d1:decide ((t.length:Int) > 120)=true:=by simp;omega
    rw [if_pos hb]
    simp only [d1,go_sem]
    exact Z16
   ·have d1:decide ((t.length:Int) > 120)=false:=by simp;omega
    simp only [d1,go_sem,wl]
    refine ⟨t,⟨rfl,k5,ht⟩,?_⟩
    by_cases h2:12<gN t
    ·have hb:sA t=true:=by unfold sA;simp [h2]
     have d2:decide (((gN t:Nat):Int) > 12)=true:=by simp;omega
     rw [if_pos hb]
     simp only [d2,go_sem]
     exact Z16
    ·have hb:¬ sA t=true:=by unfold sA;simp;omega
     have d2:decide (((gN t:Nat):Int) > 12)=false:=by simp;omega
     rw [if_neg hb]
     simp only [d2,go_sem]
     simp (disch:=first|exact Zd|omega) [↓zmk,beq,ybc,ybd,ybe,af,wk,wk2,wk1,wkM,wkL,aj,ybf,hcl,kE]
end Go.AL
