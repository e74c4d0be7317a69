/- Lemmas of the proof; no condition. -/
import Derived.Test.YtjnhidpnfdbmaaaGreatS07u
import Derived.Test.YtjnhidpnfdbmaaaGreatS07d
import Derived.Test.YtjnhidpnfdbmaaaGreatLSyn2
set_option linter.all false
set_option maxRecDepth 10000
set_option maxHeartbeats 32000000
open Go Go.AL Go.Proofs
namespace Go.AL
def its(d:List Nat):List AV:=d.map fun(n:Nat)=>.int .i64 (n:Int)
theorem iM{d:List Nat}:(its d).length=d.length:=by simp[its]
theorem BN{d:List Nat}{a:Nat}(h:a<d.length):(its d).getD a .junk=.int .i64 ((d.getD a 0:Nat):Int):=by
 simp[its,gEq,h]
theorem Ky{d:List Nat}{n:Nat}:its d++[.int .i64 (n:Int)]=its (d++[n]):=by simp[its]
theorem Pj{n:Nat}{d:List Nat}:ltL n (its d):=by
 induction d with
 |nil=>simp[its,znv]
 |cons a d ih=>simp only[its,yae,znu,znf,true_and];exact ih
theorem dO{n:Nat}{m:Mark}{d:List Nat}:AV.lt n (.slice m 1 (its d))=∀ id,m=.own id→id<n:=by
 rw[AV.lt]
 refine propext ⟨fun h=>h.1,fun h=>⟨h,fun j hj=>?_⟩⟩
 simp only[its,List.getElem_map]
 simp[znf]
theorem dm{t:List Nd}{k:Nat}(h:k<t.length):(nds t).getD k .junk=.agg [.int .i64 (t[k].op:Int),.int .i64 (t[k].a:Int),.int .i64 (t[k].b:Int),.str t[k].name,.str t[k].attr,.int .u64 ((t[k].v/2^64:Nat):Int),.int .u64 ((t[k].v%2^64:Nat):Int)]:=by
 simp[nds,lM,gEq,h]
def rQ:PCt
 |[.slice _ 1 x,.int .i64 a,.int .i64 i],_,K=>∃ d,(x=its d∧0≤a∧i=(d.length:Int)∧d.length≤100000)∧K (.int .i64 ((d.getD a.toNat 0:Nat):Int))
 |_,_,_=>False
theorem CV:EPp 176 rQ:=by
 refine Ype fun _ H K h=>?_
 unfold rQ at h
 split at h<;>try exact h.elim
 rename_i m x a i
 obtain⟨d,⟨rfl,h1,rfl,hd⟩,hK⟩:=h
 refine⟨_,hK,?_⟩
 clear hK
 obtain⟨a,rfl⟩:=bv h1
 simp only[iNq]
 refine Yfu az tNq Tryz.func176 [.tmp 6] fun hcl=>?_
 have d1:decide ((a:Int)<0)=false:=Xb
 by_cases ha:a<d.length
 ·have d2:decide ((a:Int) ≥ (d.length:Int))=false:=Xd
  simp only[go_sem,iM,d1,d2,BN ha,iNq]
  exact V32
 ·have d2:decide ((a:Int) ≥ (d.length:Int))=true:=Xd
  have e:d.getD a 0=0:=by rw[gEq,gNq (by omega)];rfl
  simp only[go_sem,iM,d1,d2,e]
  exact Z0
def oG(t:List Nd)(k:Nat):List AV:=its (dq (t.take k))++its (List.replicate (t.length-k) 0)
theorem DM{t:List Nd}{k:Nat}(h:k≤t.length):(oG t k).length=t.length:=by
 simp only[oG,lAq,iM,dW h,List.length_replicate];omega
theorem fe{n:Nat}{t:List Nd}{k:Nat}:ltL n (oG t k):=by
 unfold oG its
 rw[← List.map_append]
 exact Pj
theorem CH{t:List Nd}{k a:Nat}(h:k≤t.length)(ha:a<k):(oG t k).getD a .junk=.int .i64 (((dq (t.take k)).getD a 0:Nat):Int):=by
 have h1:a<(dq (t.take k)).length:=by rw[dW h];exact ha
 rw[gEq,oG,List.getElem?_append_left (by rw[iM];exact h1)]
 simp[its,gEq,h1]
theorem Ad:∀(A:List AV)(x v:AV)(B:List AV),splice (A++x::B) A.length [v]=A++v::B
 |[],x,v,B=>by cases B<;>rfl
 |c::A,x,v,B=>by
  have:=Ad A x v B
  simp only[yal,yaz,splice]
  rw[this]
theorem Lt{t:List Nd}{k d:Nat}(h:k<t.length)(hd:d=dAt (dq (t.take k)) t[k]):splice (oG t k) k [.int .i64 (d:Int)]=oG t (k+1):=by
 have hl:(its (dq (t.take k))).length=k:=by rw[iM,dW (by omega)]
 have e:t.length-k=(t.length-(k+1))+1:=Xa
 unfold oG
 rw[nJ h,e,List.replicate_succ,← hd]
 have h2:=Ad (its (dq (t.take k))) (.int .i64 ((0:Nat):Int)) (.int .i64 (d:Int)) (its (List.replicate (t.length-(k+1)) 0))
 rw[hl]at h2
 rw[show its (0::List.replicate (t.length-(k+1)) 0)=.int .i64 ((0:Nat):Int)::its (List.replicate (t.length-(k+1)) 0) from rfl,h2]
 simp[its]
theorem Jh{t:List Nd}{k:Nat}(h:k<t.length)(hd:dAt (dq (t.take k)) t[k]=0):oG t k=oG t (k+1):=by
 have e:t.length-k=(t.length-(k+1))+1:=Xa
 unfold oG
 rw[nJ h,e,List.replicate_succ,hd]
 simp[its]
theorem QD{t:List Nd}:(List.replicate t.length [AV.int .i64 0]).flatten=oG t 0:=by
 unfold oG
 have:∀ n:Nat,(List.replicate n [AV.int .i64 0]).flatten=its (List.replicate n 0):=fun n=>by
  induction n with
  |zero=>rfl
  |succ n ih=>rw[List.replicate_succ,List.replicate_succ,List.flatten_cons,ih];rfl
 rw[this];simp[dq,its]
theorem Bd{a b:Nat}:max (a:Int) (b:Int)=((max a b:Nat):Int):=Xa
def qz:PCt
 |[.slice _ 7 x],_,K=>∃ t,(x=nds t∧Good t∧t.length≤1000)∧K (.int .i64 ((im t:Nat):Int))
 |_,_,_=>False
theorem Jx:EPp 188 qz:=by
 refine Ype fun _ H K h=>?_
 unfold qz at h
 split at h<;>try exact h.elim
 rename_i m x
 obtain⟨t,⟨rfl,hgt,hl⟩,hK⟩:=h
 refine⟨_,hK,?_⟩
 clear hK
 refine ACalls.fW az tNq Tryz.func188 [.tmp 2] (nrq _) (T:=ay [(10,[[],[],[],[],[],[],[],[],[],[],[],[],[],[],[],[4,6,9,11]]),(5,[[],[],[],[],[],[],[],[],[],[],[],[],[],[],[4,6,9,11]])]) (h:=fun hcl hlt=>?_)
 have hm:∀ n',H.nx≤n'→AV.lt n' (.slice m 7 (nds t)):=fun n' hn=>AV.lt_mono hn _ (hlt (.slice m 7 (nds t)) Xb)
 clear hlt
 simp only[go_sem,aO,iNq,QD]
 refine⟨Xa,?_⟩
 refine aA (A:=Nat) (fun k=>[(0,.slice m 7 (nds t)),(3,.ms H.nx 0 1 t.length),(9,.slice m 7 (nds t)),(10,.int .i64 (t.length:Int)),(11,.int .i64 (k:Int))]) (fun k=>H.push (.cells (oG t k))) (fun k=>k≤t.length) (fun k=>t.length-k) 0 Xa ?_ fun k hk=>?_
 ·exact Z36
 have hcl1:∀ k,(H.push (.cells (oG t k))).Closed:=fun k=>aa hcl fe
 refine T9 ?_
 refine aq (fun hc=>?_) (fun hc=>?_)
 ·have hk1:k<t.length:=sHc
  have e5:=Yk5 k
  obtain⟨g1,g2,g3,g4⟩:=hgt k t[k] (by simp[hk1])
  have hrl:=DM (t:=t) (k:=k) Xa
  have hgets:∀ a,a<k→(oG t k).getD a .junk=.int .i64 (((dq (t.take k)).getD a 0:Nat):Int):=fun a ha=>CH Xa ha
  have hkn:(H.nx=H.nx+1)=False:=eFo
  have hen:∀ d:Nat,d=dAt (dq (t.take k)) t[k]→splice (oG t k) k [.int .i64 (d:Int)]=oG t (k+1):=fun d hd=>Lt hk1 hd
  have hdl:∀ a,(dq (t.take k)).getD a 0≤k:=fun a=>wD (Bx Xa) a
  have w1:∀ a,IntKind.i64.wrap (1+(((dq (t.take k)).getD a 0:Nat):Int))=((1+(dq (t.take k)).getD a 0:Nat):Int):=fun a=>by
   have:=hdl a
   rw[wrap_i64]<;>omega
  simp only[go_sem,aO,dm hk1,iNq,hkn]
  refine⟨Xa,?_⟩
  refine aq (fun h3=>?_) (fun h3=>?_)
  ·have h3':t[k].op≤3:=by simp at h3;omega
   have hz:dAt (dq (t.take k)) t[k]=0:=by unfold dAt;rw[if_pos h3']
   try simp only[go_sem]
   refine⟨k+1,Xa,Xa,?_⟩
   rw[← Jh hk1 hz]
   exact Z36
  have h3':¬ t[k].op≤3:=by simp at h3;omega
  obtain⟨ga,gb⟩:t[k].a<k∧t[k].b<k:=g4.resolve_left h3'
  simp only[go_sem,aO,dm hk1,iNq,hkn]
  refine aq (fun h4=>?_) (fun h4=>?_)
  ·have h4':t[k].op≤5:=by simp at h4;omega
   have hz:1+(dq (t.take k)).getD t[k].a 0=dAt (dq (t.take k)) t[k]:=by unfold dAt;rw[if_neg h3',if_pos h4']
   simp only[go_sem,aO,dm hk1,iNq,hkn,hrl,hgets _ ga,w1,hen _ hz,e5]
   refine⟨Xa,Xa,Xa,Xa,k+1,Xa,Xa,?_⟩
   exact Z36
  have h4':¬ t[k].op≤5:=by simp at h4;omega
  simp only[go_sem,aO,dm hk1,iNq,hkn]
  refine aq (fun h5=>?_) (fun h5=>?_)
  ·have h5':t[k].op=16:=by simp at h5;omega
   have hz:max ((dq (t.take k)).getD t[k].a 0) (1+(dq (t.take k)).getD t[k].b 0)=dAt (dq (t.take k)) t[k]:=by unfold dAt;rw[if_neg h3',if_neg h4',if_pos h5']
   exact V88
  ·have h5':¬ t[k].op=16:=by simp at h5;omega
   have hz:max ((dq (t.take k)).getD t[k].a 0) ((dq (t.take k)).getD t[k].b 0)=dAt (dq (t.take k)) t[k]:=by unfold dAt;rw[if_neg h3',if_neg h4',if_neg h5']
   exact V88
 ·have hk1:k=t.length:=sHc
  subst hk1
  have hrl:=DM (t:=t) (nrq _)
  have hfull:dq (t.take t.length)=dq t:=by rw[List.take_length]
  by_cases ht0:t=[]
  ·subst ht0
   have hd0:im []=0:=rfl
   have d1:(((([]:List Nd).length:Nat):Int)==0)=true:=rfl
   have hcl2:=hcl1 0
   have hkk:((((0:Nat):Int))==0)=true:=rfl
   simp only[go_sem,hd0,yba,aO,zat,hkk]
   simp (disch:=first|exact Zd|omega) [↓zmo,beq,ybc,ybd,ybe,af,wk,wk2,wk1,wkM,wkL,aj,ybf,hcl,hcl2]
  have htp:=List.length_pos_iff.2 ht0
  have d1:((t.length:Int)==0)=false:=Xd
  have e6:IntKind.i64.wrap ((t.length:Int)-1)=((t.length-1:Nat):Int):=Xe
  have hge:=CH (t:=t) (nrq _) (show t.length-1<t.length by omega)
  rw[hfull,show(dq t).getD (t.length-1) 0=im t from rfl]at hge
  simp only[go_sem,aO,d1,e6,hrl,hge,iNq]
  refine⟨Xa,Xa,?_⟩
  exact Z37
def xB:PCt
 |[.slice _ 7 x],_,K=>∃ t,(x=nds t∧Good t∧t.length≤1000)∧K (.int .i64 ((im t:Nat):Int))
 |_,_,_=>False
theorem Iq:EPp 149 xB:=by
 refine Ype fun _ H K h=>?_
 unfold xB at h
 split at h<;>try exact h.elim
 rename_i m x
 obtain⟨t,⟨rfl,hgt,hl⟩,hK⟩:=h
 refine⟨_,hK,?_⟩
 clear hK
 refine ACalls.fW az (tCq CV tNq) Tryz.func149 [.tmp 2] (nrq _) (T:=ay [(7,[[],[],[],[],[2],[],[],[],[],[2,4,7]])]) (h:=fun hcl hlt=>?_)
 have hm:∀ n',H.nx≤n'→AV.lt n' (.slice m 7 (nds t)):=fun n' hn=>AV.lt_mono hn _ (hlt (.slice m 7 (nds t)) Xb)
 clear hlt
 by_cases ht0:t=[]
 ·subst ht0
  have hd0:im []=0:=rfl
  have hkk:((((0:Nat):Int))==0)=true:=rfl
  simp only[go_sem,hd0,yba,aO,zat,hkk]
  exact Z0
 have htp:=List.length_pos_iff.2 ht0
 have d1:((t.length:Int)==0)=false:=Xd
 simp only[go_sem,aO,iNq,d1]
 refine aA (A:=Nat) (fun k=>[(3,.slice (.own H.nx) 1 (its (dq (t.take k)))),(11,.slice m 7 (nds t)),(12,.int .i64 (t.length:Int)),(13,.int .i64 (k:Int))]) (fun k=>H.push (.buf 1 k)) (fun k=>k≤t.length) (fun k=>t.length-k) 0 Xa ?_ fun k hk=>?_
 ·have e0:its (dq (t.take 0))=[]:=rfl
  (simp only[bkq,enterW,aJ,ltF,ne_eq,Nat.reduceEqDiff,reduceCtorEq,hm,e0];try simp (disch:=first|exact Zd|omega) [↓zmo,beq,ybc,ybd,ybe,af,wk,wk2,wk1,wkM,wkL,aj,ybf,byq,biq,ah,hcl,hm,e0];try(repeat' (first|assumption|omega|exact True.intro|refine And.intro ?_ ?_|refine ag ?_|refine ae ?_|refine aa ?_ ?_|refine ai ?_ ?_|refine au ?_|exact lRq _|refine lPq ?_ _|refine AHeap.Le.del ?_ ?_|(simp only[bt,and_true,true_and,hm,e0];first|done|omega|(simp;done)))))
 have hcl1:∀ k,(H.push (.buf 1 k)).Closed:=fun k=>ag hcl
 have hil:(its (dq (t.take k))).length=k:=by rw[iM,dW hk]
 refine T9 ?_
 refine aq (fun hc=>?_) (fun hc=>?_)
 ·have hk1:k<t.length:=sHc
  have e5:=Yk5 k
  obtain⟨g1,g2,g3,g4⟩:=hgt k t[k] (by simp[hk1])
  have hkn:(H.nx=H.nx+1)=False:=eFo
  have hdl:∀ a,(dq (t.take k)).getD a 0≤k:=fun a=>wD (Bx Xa) a
  have w1:∀ a,IntKind.i64.wrap ((((dq (t.take k)).getD a 0:Nat):Int)+1)=((1+(dq (t.take k)).getD a 0:Nat):Int):=fun a=>by
   have:=hdl a
   rw[wrap_i64]<;>omega
  simp only[go_sem,aO,dm hk1,iNq,hkn,rQ]
  refine⟨Xa,dq (t.take k),⟨rfl,Xa,by rw[dW hk],by rw[dW hk];omega⟩,dq (t.take k),⟨rfl,Xa,by rw[dW hk],by rw[dW hk];omega⟩,?_⟩
  have hsn:∀ d:Nat,d=dAt (dq (t.take k)) t[k]→its (dq (t.take k))++[AV.int .i64 (d:Int)]=its (dq (t.take (k+1))):=fun d hd=>by rw[nJ hk1,← hd,Ky]
  have hsz:dAt (dq (t.take k)) t[k]=0→its (dq (t.take k))++[AV.int .i64 0]=its (dq (t.take (k+1))):=fun hd=>hsn 0 hd.symm
  have hb:=hdl t[k].a
  generalize hop:t[k].op=op at g1 g2 g4
  rcases(Xa:op=1∨op=2∨op=3∨op=4∨op=5∨op=16∨(6≤op∧op≤15))with ho|ho|ho|ho|ho|ho|ho
  ·subst ho
   have b1:((((1:Nat):Int))==1)=true:=rfl
   have b2:((((1:Nat):Int))==2)=false:=rfl
   have b3:((((1:Nat):Int))==3)=false:=rfl
   have b4:((((1:Nat):Int))==4)=false:=rfl
   have b5:((((1:Nat):Int))==5)=false:=rfl
   have b16:((((1:Nat):Int))==16)=false:=rfl
   have hv:0=dAt (dq (t.take k)) t[k]:=by unfold dAt;rw[if_pos (by omega)]
   refine T29 ?_
   exact V30
  ·subst ho
   have b1:((((2:Nat):Int))==1)=false:=rfl
   have b2:((((2:Nat):Int))==2)=true:=rfl
   have b3:((((2:Nat):Int))==3)=false:=rfl
   have b4:((((2:Nat):Int))==4)=false:=rfl
   have b5:((((2:Nat):Int))==5)=false:=rfl
   have b16:((((2:Nat):Int))==16)=false:=rfl
   have hv:0=dAt (dq (t.take k)) t[k]:=by unfold dAt;rw[if_pos (by omega)]
   refine T29 ?_
   exact V30
  ·subst ho
   have b1:((((3:Nat):Int))==1)=false:=rfl
   have b2:((((3:Nat):Int))==2)=false:=rfl
   have b3:((((3:Nat):Int))==3)=true:=rfl
   have b4:((((3:Nat):Int))==4)=false:=rfl
   have b5:((((3:Nat):Int))==5)=false:=rfl
   have b16:((((3:Nat):Int))==16)=false:=rfl
   have hv:0=dAt (dq (t.take k)) t[k]:=by unfold dAt;rw[if_pos (by omega)]
   refine T29 ?_
   exact V30
  ·subst ho
   have b1:((((4:Nat):Int))==1)=false:=rfl
   have b2:((((4:Nat):Int))==2)=false:=rfl
   have b3:((((4:Nat):Int))==3)=false:=rfl
   have b4:((((4:Nat):Int))==4)=true:=rfl
   have b5:((((4:Nat):Int))==5)=false:=rfl
   have b16:((((4:Nat):Int))==16)=false:=rfl
   have hv:1+(dq (t.take k)).getD t[k].a 0=dAt (dq (t.take k)) t[k]:=by unfold dAt;rw[if_neg (by omega),if_pos (by omega)]
   exact V28
  ·subst ho
   have b1:((((5:Nat):Int))==1)=false:=rfl
   have b2:((((5:Nat):Int))==2)=false:=rfl
   have b3:((((5:Nat):Int))==3)=false:=rfl
   have b4:((((5:Nat):Int))==4)=false:=rfl
   have b5:((((5:Nat):Int))==5)=true:=rfl
   have b16:((((5:Nat):Int))==16)=false:=rfl
   have hv:1+(dq (t.take k)).getD t[k].a 0=dAt (dq (t.take k)) t[k]:=by unfold dAt;rw[if_neg (by omega),if_pos (by omega)]
   exact V28
  ·subst ho
   have b1:((((16:Nat):Int))==1)=false:=rfl
   have b2:((((16:Nat):Int))==2)=false:=rfl
   have b3:((((16:Nat):Int))==3)=false:=rfl
   have b4:((((16:Nat):Int))==4)=false:=rfl
   have b5:((((16:Nat):Int))==5)=false:=rfl
   have b16:((((16:Nat):Int))==16)=true:=rfl
   have hv:max ((dq (t.take k)).getD t[k].a 0) (1+(dq (t.take k)).getD t[k].b 0)=dAt (dq (t.take k)) t[k]:=by unfold dAt;rw[if_neg (by omega),if_neg (by omega),if_pos (by omega)]
   exact V28
  ·have b1:((op:Int)==1)=false:=Xd
   have b2:((op:Int)==2)=false:=Xd
   have b3:((op:Int)==3)=false:=Xd
   have b4:((op:Int)==4)=false:=Xd
   have b5:((op:Int)==5)=false:=Xd
   have b16:((op:Int)==16)=false:=Xd
   have hv:max ((dq (t.take k)).getD t[k].a 0) ((dq (t.take k)).getD t[k].b 0)=dAt (dq (t.take k)) t[k]:=by unfold dAt;rw[if_neg (by omega),if_neg (by omega),if_neg (by omega)]
   exact V28
 ·have hk1:k=t.length:=sHc
  subst hk1
  have e6:IntKind.i64.wrap ((t.length:Int)-1)=((t.length-1:Nat):Int):=Xe
  have hge:=BN (d:=dq t) (a:=t.length-1) (by rw[Mb];omega)
  rw[show(dq t).getD (t.length-1) 0=im t from rfl]at hge
  rw[List.take_length]at hil
  simp only[go_sem,aO,List.take_length,hil,e6,hge,iNq]
  refine⟨Xa,?_⟩
  exact Z37
theorem iL{A:Prop}{g:FuncId}{rl:Rl}:EntOk Tryz.prog g (Ent.some (bg A rl 0)):=by
 refine EntOk.some fun args H K h=>?_
 unfold bg at h
 split at h
 ·obtain⟨m,l,p,b,tb,t,hg,hpre,hK⟩:=h
  exact hK.elim
 ·exact h.elim
structure RulesR(A:Prop)(f:Nat):Prop where
 imp:EntOk Tryz.prog 187 (Ent.some (ky A f))
 or:EntOk Tryz.prog 206 (Ent.some (vL A f))
 and:EntOk Tryz.prog 218 (Ent.some (qr A f))
 not:EntOk Tryz.prog 222 (Ent.some (mB A f))
 cmp:EntOk Tryz.prog 224 (Ent.some (xr A f))
 sum:EntOk Tryz.prog 228 (Ent.some (pZ A f))
 un:EntOk Tryz.prog 231 (Ent.some (ny A f))
 atom:EntOk Tryz.prog 233 (Ent.some (tn A f))
theorem Ab{A:Prop}(hV:∀ f,EntOk Tryz.prog 237 (Ent.some (vh A f))):∀ f,RulesR A f
 |0=>⟨iL,iL,iL,iL,iL,iL,iL,iL⟩
 |f+1=>have h:=Ab hV f
  ⟨OO h.or h.imp,QR h.and,PE h.not,Pq h.not h.cmp,OQ h.sum,Oq h.un,QZ h.un h.atom,KX (hV f) h.imp⟩
def uf(t:List Nd):Bool:=decide (120<t.length)||decide (12<im t)
def jS(l:List Tok):PR→AV
 |.ok _ p t=>if p<l.length then .tup [.slice .any 7 [],.int .i64 (p:Int),.int .i64 10]else if uf t=true then .tup [.slice .any 7 [],.int .i64 0,.int .i64 11]else .tup [.slice .any 7 (nds t),.int .i64 0,.int .i64 0]
 |.bad p=>.tup [.slice .any 7 [],.int .i64 (p:Int),.int .i64 10]
def yw(A:Prop)(_g:Nat):List AV→AHeap→(AV→AHeap→Prop)→Prop
 |[.slice _ 3 x],H,K=>∃ l f r,(x=dN l∧run l f .imp 0 []=some r∧l.length≤1000∧rB l∧G4 A l)∧K (jS l r) H
 |_,_,_=>False
def yr:PCt
 |[.slice _ 3 x],H,K=>∃ l f r,(x=dN l∧run l f .imp 0 []=some r∧l.length≤1000∧rB l)∧K (jS l r)
 |_,_,_=>False
theorem IZ:EPp 115 yr:=by
 refine Ype fun _ H K h=>?_
 unfold yr at h
 split at h<;>try exact h.elim
 rename_i m x
 obtain⟨l,f,r,⟨rfl,hr,hl,hgl⟩,hK⟩:=h
 refine⟨_,hK,?_⟩
 clear hK
 have hw:=bz f hr Good.nil trivial (Nat.zero_le _)
 refine Yfu az (tCq Lv (tCq Iq tNq)) Tryz.func115 [.tmp 2,.tmp 3,.tmp 4] fun hcl=>?_
 simp only[go_sem,AR]
 refine⟨l,f,r,⟨rfl,hr,hl,hgl⟩,?_⟩
 cases r with
 |bad q =>
  simp only[go_sem,uP,jS]
  exact Z16
 |ok a p t =>
  obtain⟨k1,k2,k3,k4,k5,k6⟩:=hw
  simp only[uP,jS]
  by_cases hp:p<l.length
  ·simp only[if_pos hp,go_sem]
   exact Z16
  ·have ht:t.length≤1000:=by simp at k3;omega
   simp only[if_neg hp,go_sem,aO]
   by_cases h1:120<t.length
   ·have hb:uf t=true:=by unfold uf;simp[h1]
    have d1:decide ((t.length:Int)>120)=true:=Xd
    rw[if_pos hb]
    simp only[d1,go_sem]
    exact Z16
   ·have d1:decide ((t.length:Int)>120)=false:=Xd
    simp only[d1,go_sem,xB]
    refine⟨t,⟨rfl,k5,ht⟩,?_⟩
    by_cases h2:12<im t
    ·have hb:uf t=true:=by unfold uf;simp[h2]
     have d2:decide (((im t:Nat):Int)>12)=true:=Xd
     rw[if_pos hb]
     simp only[d2,go_sem]
     exact Z16
    ·have hb:¬ uf t=true:=by unfold uf;simp;omega
     have d2:decide (((im t:Nat):Int)>12)=false:=Xd
     rw[if_neg hb]
     simp only[d2,go_sem]
     simp (disch:=first|exact Zd|omega) [↓zmo,beq,ybc,ybd,ybe,af,wk,wk2,wk1,wkM,wkL,aj,ybf,hcl,lF]
end Go.AL
