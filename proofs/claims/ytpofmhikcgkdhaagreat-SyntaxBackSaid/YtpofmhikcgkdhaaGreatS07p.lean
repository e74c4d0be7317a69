/- Lemmas of the proof; no condition. -/
import Derived.Test.YtpofmhikcgkdhaaGreatS07u
import Derived.Test.YtpofmhikcgkdhaaGreatS07d
import Derived.Test.YtpofmhikcgkdhaaGreatLSyn2
set_option linter.all false
set_option maxRecDepth 10000
set_option maxHeartbeats 32000000
open List renaming map_cons → yae, length_cons → yaz, length_nil → yba, take_of_length_le → ybc, drop_append → ybd, take_append → ybe, drop_eq_nil_of_le → ybf, cons_append → yal
open Go Go.AL Go.Proofs
namespace Go.AL
def its (d:List Nat):List AV:=d.map fun (n:Nat)=>.int .i64 (n:Int)
theorem fD {d:List Nat}:(its d).length=d.length:=by simp [its]
theorem wo {d:List Nat} {a:Nat} (h:a<d.length):(its d).getD a .junk=.int .i64 ((d.getD a 0:Nat):Int):=by
 simp [its,gEq,h]
theorem z8 {d:List Nat} {n:Nat}:its d++[.int .i64 (n:Int)]=its (d++[n]):=by simp [its]
theorem AJ {n:Nat} {d:List Nat}:ltL n (its d):=by
 induction d with
 |nil=>simp [its,znv]
 |cons a d ih=>simp only [its,yae,znu,znf,true_and];exact ih
theorem cZ {n:Nat} {m:Mark} {d:List Nat}:AV.lt n (.slice m 1 (its d))=∀ id,m=.own id→id<n:=by
 rw [AV.lt]
 refine propext ⟨fun h=>h.1,fun h=>⟨h,fun j hj=>?_⟩⟩
 simp only [its,List.getElem_map]
 simp [znf]
theorem cw {t:List Nd} {k:Nat} (h:k<t.length):(nds t).getD k .junk=.agg [.int .i64 (t[k].op:Int),.int .i64 (t[k].a:Int),.int .i64 (t[k].b:Int),.str t[k].name,.str t[k].attr,.int .u64 ((t[k].v/2^64:Nat):Int),.int .u64 ((t[k].v % 2^64:Nat):Int)]:=by
 simp [nds,gJ,gEq,h]
def lC:List AV→AHeap→(AV→Prop)→Prop
 |[.slice _ 1 x,.int .i64 a,.int .i64 i],_,K=>∃ d,(x=its d∧0≤a∧i=(d.length:Int)∧d.length≤100000)∧K (.int .i64 ((d.getD a.toNat 0:Nat):Int))
 |_,_,_=>False
theorem sU:EntOk Tryz.prog 28 (Ent.pure lC):=by
 refine Ype fun _ H K h=>?_
 unfold lC at h
 split at h
 rotate_left
 ·exact h.elim
 rename_i m x a i
 obtain ⟨d,⟨rfl,h1,rfl,hd⟩,hK⟩:=h
 refine ⟨_,hK,?_⟩
 clear hK
 obtain ⟨a,rfl⟩:=bO h1
 simp only [iNq]
 refine ACalls.fW aE tNq Tryz.func28 [.tmp 6] (nrq _) (T:=ay []) (h:=fun hcl hlt=>?_)
 clear hlt
 have d1:decide ((a:Int)<0)=false:=by simp
 by_cases ha:a<d.length
 ·have d2:decide ((a:Int) ≥ (d.length:Int))=false:=by simp;omega
  simp only [go_sem,fD,d1,d2,wo ha,iNq]
  refine ⟨by omega,?_⟩
  exact Z0
 ·have d2:decide ((a:Int) ≥ (d.length:Int))=true:=by simp;omega
  have e:d.getD a 0=0:=by rw [gEq,gNq (by omega)];rfl
  simp only [go_sem,fD,d1,d2,e]
  exact Z0
def jd (t:List Nd) (k:Nat):List AV:=its (bX (t.take k))++its (List.replicate (t.length - k) 0)
theorem th {t:List Nd} {k:Nat} (h:k≤t.length):(jd t k).length=t.length:=by
 simp only [jd,lAq,fD,cf h,List.length_replicate];omega
theorem cy {n:Nat} {t:List Nd} {k:Nat}:ltL n (jd t k):=by
 unfold jd its
 rw [← List.map_append]
 exact AJ
theorem tX {t:List Nd} {k a:Nat} (h:k≤t.length) (ha:a<k):(jd t k).getD a .junk=.int .i64 (((bX (t.take k)).getD a 0:Nat):Int):=by
 have h1:a<(bX (t.take k)).length:=by rw [cf h];exact ha
 rw [gEq,jd,List.getElem?_append_left (by rw [fD];exact h1)]
 simp [its,gEq,h1]
theorem qS:∀ (A:List AV) (x v:AV) (B:List AV),splice (A++x::B) A.length [v]=A++v::B
 |[],x,v,B=>by cases B<;>rfl
 |c::A,x,v,B=>by
  have:=qS A x v B
  simp only [yal,yaz,splice]
  rw [this]
theorem yR {t:List Nd} {k d:Nat} (h:k<t.length) (hd:d=dAt (bX (t.take k)) t[k]):splice (jd t k) k [.int .i64 (d:Int)]=jd t (k+1):=by
 have hl:(its (bX (t.take k))).length=k:=by rw [fD,cf (by omega)]
 have e:t.length - k=(t.length - (k+1))+1:=by omega
 unfold jd
 rw [iG h,e,List.replicate_succ,← hd]
 have h2:=qS (its (bX (t.take k))) (.int .i64 ((0:Nat):Int)) (.int .i64 (d:Int)) (its (List.replicate (t.length - (k+1)) 0))
 rw [hl] at h2
 rw [show its (0::List.replicate (t.length - (k+1)) 0)=.int .i64 ((0:Nat):Int)::its (List.replicate (t.length - (k+1)) 0) from rfl,h2]
 simp [its]
theorem yc {t:List Nd} {k:Nat} (h:k<t.length) (hd:dAt (bX (t.take k)) t[k]=0):jd t k=jd t (k+1):=by
 have e:t.length - k=(t.length - (k+1))+1:=by omega
 unfold jd
 rw [iG h,e,List.replicate_succ,hd]
 simp [its]
theorem Cl {t:List Nd}:(List.replicate t.length [AV.int .i64 0]).flatten=jd t 0:=by
 unfold jd
 have:∀ n:Nat,(List.replicate n [AV.int .i64 0]).flatten=its (List.replicate n 0):=fun n=>by
  induction n with
  |zero=>rfl
  |succ n ih=>rw [List.replicate_succ,List.replicate_succ,List.flatten_cons,ih];rfl
 rw [this];simp [bX,its]
theorem rh {a b:Nat}:max (a:Int) (b:Int)=((max a b:Nat):Int):=by omega
def iV:List AV→AHeap→(AV→Prop)→Prop
 |[.slice _ 7 x],_,K=>∃ t,(x=nds t∧Good t∧t.length≤1000)∧K (.int .i64 ((dK t:Nat):Int))
 |_,_,_=>False
theorem pY:EntOk Tryz.prog 11 (Ent.pure iV):=by
 refine Ype fun _ H K h=>?_
 unfold iV at h
 split at h
 rotate_left
 ·exact h.elim
 rename_i m x
 obtain ⟨t,⟨rfl,hgt,hl⟩,hK⟩:=h
 refine ⟨_,hK,?_⟩
 clear hK
 refine ACalls.fW aE tNq Tryz.func11 [.tmp 2] (nrq _) (T:=ay [(10,[[],[],[],[],[],[],[],[],[],[],[],[],[],[],[],[4,6,9,11]]),(5,[[],[],[],[],[],[],[],[],[],[],[],[],[],[],[4,6,9,11]])]) (h:=fun hcl hlt=>?_)
 have hm:∀ n',H.nx≤n'→AV.lt n' (.slice m 7 (nds t)):=fun n' hn=>AV.lt_mono hn _ (hlt (.slice m 7 (nds t)) (by simp))
 clear hlt
 simp only [go_sem,az,iNq,Cl]
 refine ⟨by omega,?_⟩
 refine au (A:=Nat) (fun k=>[(0,.slice m 7 (nds t)),(3,.ms H.nx 0 1 t.length),(9,.slice m 7 (nds t)),(10,.int .i64 (t.length:Int)),(11,.int .i64 (k:Int))]) (fun k=>H.push (.cells (jd t k))) (fun k=>k≤t.length) (fun k=>t.length - k) 0 (by omega) ?_ fun k hk=>?_
 ·exact Z29
 have hcl1:∀ k,(H.push (.cells (jd t k))).Closed:=fun k=>aa hcl cy
 simp only [go_sem]
 refine ah (fun hc=>?_) (fun hc=>?_)
 ·have hk1:k<t.length:=by simp at hc;omega
  have e5:=Yk5 k
  obtain ⟨g1,g2,g3,g4⟩:=hgt k t[k] (by simp [hk1])
  have hrl:=th (t:=t) (k:=k) (by omega)
  have hgets:∀ a,a<k→(jd t k).getD a .junk=.int .i64 (((bX (t.take k)).getD a 0:Nat):Int):=fun a ha=>tX (by omega) ha
  have hkn:(H.nx=H.nx+1)=False:=eq_false (by omega)
  have hen:∀ d:Nat,d=dAt (bX (t.take k)) t[k]→splice (jd t k) k [.int .i64 (d:Int)]=jd t (k+1):=fun d hd=>yR hk1 hd
  have hdl:∀ a,(bX (t.take k)).getD a 0≤k:=fun a=>nQ (sx (by omega)) a
  have w1:∀ a,IntKind.i64.wrap (1+(((bX (t.take k)).getD a 0:Nat):Int))=((1+(bX (t.take k)).getD a 0:Nat):Int):=fun a=>by
   have:=hdl a
   rw [wrap_i64]<;>omega
  simp only [go_sem,az,cw hk1,iNq,hkn]
  refine ⟨by omega,?_⟩
  refine ah (fun h3=>?_) (fun h3=>?_)
  ·have h3':t[k].op≤3:=by simp at h3;omega
   have hz:dAt (bX (t.take k)) t[k]=0:=by unfold dAt;rw [if_pos h3']
   try simp only [go_sem]
   refine ⟨k+1,by omega,by omega,?_⟩
   rw [← yc hk1 hz]
   exact Z29
  have h3':¬ t[k].op≤3:=by simp at h3;omega
  obtain ⟨ga,gb⟩:t[k].a<k∧t[k].b<k:=g4.resolve_left h3'
  simp only [go_sem,az,cw hk1,iNq,hkn]
  refine ah (fun h4=>?_) (fun h4=>?_)
  ·have h4':t[k].op≤5:=by simp at h4;omega
   have hz:1+(bX (t.take k)).getD t[k].a 0=dAt (bX (t.take k)) t[k]:=by unfold dAt;rw [if_neg h3',if_pos h4']
   simp only [go_sem,az,cw hk1,iNq,hkn,hrl,hgets _ ga,w1,hen _ hz,e5]
   refine ⟨by omega,by omega,by omega,by omega,k+1,by omega,by omega,?_⟩
   exact Z29
  have h4':¬ t[k].op≤5:=by simp at h4;omega
  simp only [go_sem,az,cw hk1,iNq,hkn]
  refine ah (fun h5=>?_) (fun h5=>?_)
  ·have h5':t[k].op=16:=by simp at h5;omega
   have hz:max ((bX (t.take k)).getD t[k].a 0) (1+(bX (t.take k)).getD t[k].b 0)=dAt (bX (t.take k)) t[k]:=by unfold dAt;rw [if_neg h3',if_neg h4',if_pos h5']
   simp only [go_sem,az,cw hk1,iNq,hkn,hrl,hgets _ ga,hgets _ gb,w1,rh,hen _ hz,e5]
   refine ⟨by omega,by omega,by omega,by omega,by omega,by omega,k+1,by omega,by omega,?_⟩
   exact Z29
  ·have h5':¬ t[k].op=16:=by simp at h5;omega
   have hz:max ((bX (t.take k)).getD t[k].a 0) ((bX (t.take k)).getD t[k].b 0)=dAt (bX (t.take k)) t[k]:=by unfold dAt;rw [if_neg h3',if_neg h4',if_neg h5']
   simp only [go_sem,az,cw hk1,iNq,hkn,hrl,hgets _ ga,hgets _ gb,w1,rh,hen _ hz,e5]
   refine ⟨by omega,by omega,by omega,by omega,by omega,by omega,k+1,by omega,by omega,?_⟩
   exact Z29
 ·have hk1:k=t.length:=by simp at hc;omega
  subst hk1
  have hrl:=th (t:=t) (nrq _)
  have hfull:bX (t.take t.length)=bX t:=by rw [List.take_length]
  by_cases ht0:t=[]
  ·subst ht0
   have hd0:dK []=0:=rfl
   have d1:(((([]:List Nd).length:Nat):Int)==0)=true:=rfl
   have hcl2:=hcl1 0
   have hkk:((((0:Nat):Int))==0)=true:=rfl
   simp only [go_sem,hd0,yba,az,zat,hkk]
   simp (disch:=first|exact Zd|omega) [↓zmo,beq,ybc,ybd,ybe,af,wk,wk2,wk1,wkM,wkL,am,ybf,hcl,hcl2]
  have htp:=List.length_pos_iff.2 ht0
  have d1:((t.length:Int)==0)=false:=by simp;omega
  have e6:IntKind.i64.wrap ((t.length:Int) - 1)=((t.length - 1:Nat):Int):=by rw [wrap_i64]<;>omega
  have hge:=tX (t:=t) (nrq _) (show t.length - 1<t.length by omega)
  rw [hfull,show (bX t).getD (t.length - 1) 0=dK t from rfl] at hge
  simp only [go_sem,az,d1,e6,hrl,hge,iNq]
  refine ⟨by omega,by omega,?_⟩
  exact Z30
def lI:List AV→AHeap→(AV→Prop)→Prop
 |[.slice _ 7 x],_,K=>∃ t,(x=nds t∧Good t∧t.length≤1000)∧K (.int .i64 ((dK t:Nat):Int))
 |_,_,_=>False
theorem qB:EntOk Tryz.prog 10 (Ent.pure lI):=by
 refine Ype fun _ H K h=>?_
 unfold lI at h
 split at h
 rotate_left
 ·exact h.elim
 rename_i m x
 obtain ⟨t,⟨rfl,hgt,hl⟩,hK⟩:=h
 refine ⟨_,hK,?_⟩
 clear hK
 refine ACalls.fW aE (tCq sU tNq) Tryz.func10 [.tmp 2] (nrq _) (T:=ay [(7,[[],[],[],[],[2],[],[],[],[],[2,4,7]])]) (h:=fun hcl hlt=>?_)
 have hm:∀ n',H.nx≤n'→AV.lt n' (.slice m 7 (nds t)):=fun n' hn=>AV.lt_mono hn _ (hlt (.slice m 7 (nds t)) (by simp))
 clear hlt
 by_cases ht0:t=[]
 ·subst ht0
  have hd0:dK []=0:=rfl
  have hkk:((((0:Nat):Int))==0)=true:=rfl
  simp only [go_sem,hd0,yba,az,zat,hkk]
  exact Z0
 have htp:=List.length_pos_iff.2 ht0
 have d1:((t.length:Int)==0)=false:=by simp;omega
 simp only [go_sem,az,iNq,d1]
 refine au (A:=Nat) (fun k=>[(3,.slice (.own H.nx) 1 (its (bX (t.take k)))),(11,.slice m 7 (nds t)),(12,.int .i64 (t.length:Int)),(13,.int .i64 (k:Int))]) (fun k=>H.push (.buf 1 k)) (fun k=>k≤t.length) (fun k=>t.length - k) 0 (by omega) ?_ fun k hk=>?_
 ·have e0:its (bX (t.take 0))=[]:=rfl
  exact Z31
 have hcl1:∀ k,(H.push (.buf 1 k)).Closed:=fun k=>ag hcl
 have hil:(its (bX (t.take k))).length=k:=by rw [fD,cf hk]
 simp only [go_sem]
 refine ah (fun hc=>?_) (fun hc=>?_)
 ·have hk1:k<t.length:=by simp at hc;omega
  have e5:=Yk5 k
  obtain ⟨g1,g2,g3,g4⟩:=hgt k t[k] (by simp [hk1])
  have hkn:(H.nx=H.nx+1)=False:=eq_false (by omega)
  have hdl:∀ a,(bX (t.take k)).getD a 0≤k:=fun a=>nQ (sx (by omega)) a
  have w1:∀ a,IntKind.i64.wrap ((((bX (t.take k)).getD a 0:Nat):Int)+1)=((1+(bX (t.take k)).getD a 0:Nat):Int):=fun a=>by
   have:=hdl a
   rw [wrap_i64]<;>omega
  simp only [go_sem,az,cw hk1,iNq,hkn,lC]
  refine ⟨by omega,bX (t.take k),⟨rfl,by omega,by rw [cf hk],by rw [cf hk];omega⟩,bX (t.take k),⟨rfl,by omega,by rw [cf hk],by rw [cf hk];omega⟩,?_⟩
  have hsn:∀ d:Nat,d=dAt (bX (t.take k)) t[k]→its (bX (t.take k))++[AV.int .i64 (d:Int)]=its (bX (t.take (k+1))):=fun d hd=>by rw [iG hk1,← hd,z8]
  have hsz:dAt (bX (t.take k)) t[k]=0→its (bX (t.take k))++[AV.int .i64 0]=its (bX (t.take (k+1))):=fun hd=>hsn 0 hd.symm
  have hb:=hdl t[k].a
  generalize hop:t[k].op=op at g1 g2 g4
  rcases (by omega:op=1∨op=2∨op=3∨op=4∨op=5∨op=16∨(6≤op∧op≤15)) with ho|ho|ho|ho|ho|ho|ho
  ·subst ho
   have b1:((((1:Nat):Int))==1)=true:=rfl
   have b2:((((1:Nat):Int))==2)=false:=rfl
   have b3:((((1:Nat):Int))==3)=false:=rfl
   have b4:((((1:Nat):Int))==4)=false:=rfl
   have b5:((((1:Nat):Int))==5)=false:=rfl
   have b16:((((1:Nat):Int))==16)=false:=rfl
   have hv:0=dAt (bX (t.take k)) t[k]:=by unfold dAt;rw [if_pos (by omega)]
   simp only [go_sem,az,iNq,hkn,hop,zat,zau,b1,b2,b3,b4,b5,b16,hil,w1,rh,e5,hsz hv.symm]
   refine ⟨⟨by omega,by omega,by simp [aY,AV.cells,AV.one]⟩,k+1,by omega,by omega,?_⟩
   exact Z32
  ·subst ho
   have b1:((((2:Nat):Int))==1)=false:=rfl
   have b2:((((2:Nat):Int))==2)=true:=rfl
   have b3:((((2:Nat):Int))==3)=false:=rfl
   have b4:((((2:Nat):Int))==4)=false:=rfl
   have b5:((((2:Nat):Int))==5)=false:=rfl
   have b16:((((2:Nat):Int))==16)=false:=rfl
   have hv:0=dAt (bX (t.take k)) t[k]:=by unfold dAt;rw [if_pos (by omega)]
   simp only [go_sem,az,iNq,hkn,hop,zat,zau,b1,b2,b3,b4,b5,b16,hil,w1,rh,e5,hsz hv.symm]
   refine ⟨⟨by omega,by omega,by simp [aY,AV.cells,AV.one]⟩,k+1,by omega,by omega,?_⟩
   exact Z32
  ·subst ho
   have b1:((((3:Nat):Int))==1)=false:=rfl
   have b2:((((3:Nat):Int))==2)=false:=rfl
   have b3:((((3:Nat):Int))==3)=true:=rfl
   have b4:((((3:Nat):Int))==4)=false:=rfl
   have b5:((((3:Nat):Int))==5)=false:=rfl
   have b16:((((3:Nat):Int))==16)=false:=rfl
   have hv:0=dAt (bX (t.take k)) t[k]:=by unfold dAt;rw [if_pos (by omega)]
   simp only [go_sem,az,iNq,hkn,hop,zat,zau,b1,b2,b3,b4,b5,b16,hil,w1,rh,e5,hsz hv.symm]
   refine ⟨⟨by omega,by omega,by simp [aY,AV.cells,AV.one]⟩,k+1,by omega,by omega,?_⟩
   exact Z32
  ·subst ho
   have b1:((((4:Nat):Int))==1)=false:=rfl
   have b2:((((4:Nat):Int))==2)=false:=rfl
   have b3:((((4:Nat):Int))==3)=false:=rfl
   have b4:((((4:Nat):Int))==4)=true:=rfl
   have b5:((((4:Nat):Int))==5)=false:=rfl
   have b16:((((4:Nat):Int))==16)=false:=rfl
   have hv:1+(bX (t.take k)).getD t[k].a 0=dAt (bX (t.take k)) t[k]:=by unfold dAt;rw [if_neg (by omega),if_pos (by omega)]
   simp only [go_sem,az,iNq,hkn,hop,zat,zau,b1,b2,b3,b4,b5,b16,hil,w1,rh,e5,hsn _ hv]
   refine ⟨⟨by omega,by omega,by simp [aY,AV.cells,AV.one]⟩,k+1,by omega,by omega,?_⟩
   exact Z32
  ·subst ho
   have b1:((((5:Nat):Int))==1)=false:=rfl
   have b2:((((5:Nat):Int))==2)=false:=rfl
   have b3:((((5:Nat):Int))==3)=false:=rfl
   have b4:((((5:Nat):Int))==4)=false:=rfl
   have b5:((((5:Nat):Int))==5)=true:=rfl
   have b16:((((5:Nat):Int))==16)=false:=rfl
   have hv:1+(bX (t.take k)).getD t[k].a 0=dAt (bX (t.take k)) t[k]:=by unfold dAt;rw [if_neg (by omega),if_pos (by omega)]
   simp only [go_sem,az,iNq,hkn,hop,zat,zau,b1,b2,b3,b4,b5,b16,hil,w1,rh,e5,hsn _ hv]
   refine ⟨⟨by omega,by omega,by simp [aY,AV.cells,AV.one]⟩,k+1,by omega,by omega,?_⟩
   exact Z32
  ·subst ho
   have b1:((((16:Nat):Int))==1)=false:=rfl
   have b2:((((16:Nat):Int))==2)=false:=rfl
   have b3:((((16:Nat):Int))==3)=false:=rfl
   have b4:((((16:Nat):Int))==4)=false:=rfl
   have b5:((((16:Nat):Int))==5)=false:=rfl
   have b16:((((16:Nat):Int))==16)=true:=rfl
   have hv:max ((bX (t.take k)).getD t[k].a 0) (1+(bX (t.take k)).getD t[k].b 0)=dAt (bX (t.take k)) t[k]:=by unfold dAt;rw [if_neg (by omega),if_neg (by omega),if_pos (by omega)]
   simp only [go_sem,az,iNq,hkn,hop,zat,zau,b1,b2,b3,b4,b5,b16,hil,w1,rh,e5,hsn _ hv]
   refine ⟨⟨by omega,by omega,by simp [aY,AV.cells,AV.one]⟩,k+1,by omega,by omega,?_⟩
   exact Z32
  ·have b1:((op:Int)==1)=false:=by simp;omega
   have b2:((op:Int)==2)=false:=by simp;omega
   have b3:((op:Int)==3)=false:=by simp;omega
   have b4:((op:Int)==4)=false:=by simp;omega
   have b5:((op:Int)==5)=false:=by simp;omega
   have b16:((op:Int)==16)=false:=by simp;omega
   have hv:max ((bX (t.take k)).getD t[k].a 0) ((bX (t.take k)).getD t[k].b 0)=dAt (bX (t.take k)) t[k]:=by unfold dAt;rw [if_neg (by omega),if_neg (by omega),if_neg (by omega)]
   simp only [go_sem,az,iNq,hkn,hop,zat,zau,b1,b2,b3,b4,b5,b16,hil,w1,rh,e5,hsn _ hv]
   refine ⟨⟨by omega,by omega,by simp [aY,AV.cells,AV.one]⟩,k+1,by omega,by omega,?_⟩
   exact Z32
 ·have hk1:k=t.length:=by simp at hc;omega
  subst hk1
  have e6:IntKind.i64.wrap ((t.length:Int) - 1)=((t.length - 1:Nat):Int):=by rw [wrap_i64]<;>omega
  have hge:=wo (d:=bX t) (a:=t.length - 1) (by rw [zO];omega)
  rw [show (bX t).getD (t.length - 1) 0=dK t from rfl] at hge
  rw [List.take_length] at hil
  simp only [go_sem,az,List.take_length,hil,e6,hge,iNq]
  refine ⟨by omega,?_⟩
  exact Z30
theorem dZ {A:Prop} {g:FuncId} {rl:Rl}:EntOk Tryz.prog g (Ent.some (aG A rl 0)):=by
 refine EntOk.some fun args H K h=>?_
 unfold aG at h
 split at h
 ·obtain ⟨m,l,p,b,tb,t,hg,hpre,hK⟩:=h
  exact hK.elim
 ·exact h.elim
structure RulesR (A:Prop) (f:Nat):Prop where
 imp:EntOk Tryz.prog 40 (Ent.some (fA A f))
 or:EntOk Tryz.prog 65 (Ent.some (nq A f))
 and:EntOk Tryz.prog 86 (Ent.some (ju A f))
 not:EntOk Tryz.prog 93 (Ent.some (gE A f))
 cmp:EntOk Tryz.prog 97 (Ent.some (oV A f))
 sum:EntOk Tryz.prog 100 (Ent.some (jB A f))
 un:EntOk Tryz.prog 103 (Ent.some (iy A f))
 atom:EntOk Tryz.prog 105 (Ent.some (lM A f))
theorem qj {A:Prop} (hV:∀ f,EntOk Tryz.prog 107 (Ent.some (mK A f))):∀ f,RulesR A f
 |0=>⟨dZ,dZ,dZ,dZ,dZ,dZ,dZ,dZ⟩
 |f+1=>have h:=qj hV f
  ⟨A9 h.or h.imp,Ce h.and,AG h.not,AO h.not h.cmp,Bb h.sum,A4 h.un,C6 h.un h.atom,zv (hV f) h.imp⟩
def iI (t:List Nd):Bool:=decide (120<t.length)||decide (12<dK t)
def dM (l:List Tok):PR→AV
 |.ok _ p t=>if p<l.length then .tup [.slice .any 7 [],.int .i64 (p:Int),.int .i64 10] else if iI t=true then .tup [.slice .any 7 [],.int .i64 0,.int .i64 11] else .tup [.slice .any 7 (nds t),.int .i64 0,.int .i64 0]
 |.bad p=>.tup [.slice .any 7 [],.int .i64 (p:Int),.int .i64 10]
def lR (A:Prop) (_g:Nat):List AV→AHeap→(AV→AHeap→Prop)→Prop
 |[.slice _ 3 x],H,K=>∃ l f r,(x=ce l∧run l f .imp 0 []=some r∧l.length≤1000∧lN l∧nX A l)∧K (dM l r) H
 |_,_,_=>False
def jz:List AV→AHeap→(AV→Prop)→Prop
 |[.slice _ 3 x],H,K=>∃ l f r,(x=ce l∧run l f .imp 0 []=some r∧l.length≤1000∧lN l)∧K (dM l r)
 |_,_,_=>False
theorem mP:EntOk Tryz.prog 13 (Ent.pure jz):=by
 refine Ype fun _ H K h=>?_
 unfold jz at h
 split at h
 rotate_left
 ·exact h.elim
 rename_i m x
 obtain ⟨l,f,r,⟨rfl,hr,hl,hgl⟩,hK⟩:=h
 refine ⟨_,hK,?_⟩
 clear hK
 have hw:=aH f hr Good.nil trivial (Nat.zero_le _)
 refine ACalls.fW aE (tCq yU (tCq qB tNq)) Tryz.func13 [.tmp 2,.tmp 3,.tmp 4] (nrq _) (T:=ay []) (h:=fun hcl hlt=>?_)
 clear hlt
 simp only [go_sem,sH]
 refine ⟨l,f,r,⟨rfl,hr,hl,hgl⟩,?_⟩
 cases r with
 |bad q =>
  simp only [go_sem,mB,dM]
  exact Z15
 |ok a p t =>
  obtain ⟨k1,k2,k3,k4,k5,k6⟩:=hw
  simp only [mB,dM]
  by_cases hp:p<l.length
  ·simp only [if_pos hp,go_sem]
   exact Z15
  ·have ht:t.length≤1000:=by simp at k3;omega
   simp only [if_neg hp,go_sem,az]
   by_cases h1:120<t.length
   ·have hb:iI t=true:=by unfold iI;simp [h1]
    have d1:decide ((t.length:Int) > 120)=true:=by simp;omega
    rw [if_pos hb]
    simp only [d1,go_sem]
    exact Z15
   ·have d1:decide ((t.length:Int) > 120)=false:=by simp;omega
    simp only [d1,go_sem,lI]
    refine ⟨t,⟨rfl,k5,ht⟩,?_⟩
    by_cases h2:12<dK t
    ·have hb:iI t=true:=by unfold iI;simp [h2]
     have d2:decide (((dK t:Nat):Int) > 12)=true:=by simp;omega
     rw [if_pos hb]
     simp only [d2,go_sem]
     exact Z15
    ·have hb:¬ iI t=true:=by unfold iI;simp;omega
     have d2:decide (((dK t:Nat):Int) > 12)=false:=by simp;omega
     rw [if_neg hb]
     simp only [d2,go_sem]
     simp (disch:=first|exact Zd|omega) [↓zmo,beq,ybc,ybd,ybe,af,wk,wk2,wk1,wkM,wkL,am,ybf,hcl,gH]
end Go.AL
