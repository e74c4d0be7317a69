/- Lemmas of the proof; no condition. -/
import Derived.Test.YtjnhidpnfdbmaaaGreatS07u
import Derived.Test.YtjnhidpnfdbmaaaGreatS07d
import Derived.Test.YtjnhidpnfdbmaaaGreatLSyn2
set_option linter.all false
set_option maxRecDepth 10000
open List renaming length_cons → yaz, length_nil → yba, take_of_length_le → ybc, drop_append → ybd, take_append → ybe, drop_eq_nil_of_le → ybf
open Go Go.AL Go.Proofs
namespace Go.AL
def its (d:List Nat):List AV:=d.map fun (n:Nat)=>.int .i64 (n:Int)
theorem jO {d:List Nat}:(its d).length=d.length:=by simp [its]
theorem wz {d:List Nat} {a:Nat} (h:a<d.length):(its d).getD a .junk=.int .i64 ((d.getD a 0:Nat):Int):=by
 simp [its,gEq,h]
theorem Gs {d:List Nat} {n:Nat}:its d++[.int .i64 (n:Int)]=its (d++[n]):=by simp [its]
theorem cJ {n:Nat} {m:Mark} {d:List Nat}:AV.lt n (.slice m 1 (its d))=∀ id,m=.own id→id<n:=by
 rw [AV.lt]
 refine propext ⟨fun h=>h.1,fun h=>⟨h,fun j hj=>?_⟩⟩
 simp only [its,List.getElem_map]
 simp [znf]
theorem fQ {t:List Nd} {k:Nat} (h:k<t.length):(nds t).getD k .junk=.agg [.int .i64 (t[k].op:Int),.int .i64 (t[k].a:Int),.int .i64 (t[k].b:Int),.str t[k].name,.str t[k].attr,.int .u64 ((t[k].v/2^64:Nat):Int),.int .u64 ((t[k].v % 2^64:Nat):Int)]:=by
 simp [nds,qP,gEq,h]
def ox:List AV→AHeap→(AV→Prop)→Prop
 |[.slice _ 1 x,.int .i64 a,.int .i64 i],_,K=>∃ d,(x=its d∧0≤a∧i=(d.length:Int)∧d.length≤100000)∧K (.int .i64 ((d.getD a.toNat 0:Nat):Int))
 |_,_,_=>False
theorem yF:EntOk Tryz.prog 176 (Ent.pure ox):=by
 refine Ype fun _ H K h=>?_
 unfold ox at h
 split at h
 rotate_left
 ·exact h.elim
 rename_i m x a i
 obtain ⟨d,⟨rfl,h1,rfl,hd⟩,hK⟩:=h
 refine ⟨_,hK,?_⟩
 clear hK
 obtain ⟨a,rfl⟩:=bL h1
 simp only [iNq]
 refine ACalls.fW au tNq Tryz.func176 [.tmp 6] (nrq _) (T:=aq []) (h:=fun hcl hlt=>?_)
 clear hlt
 have d1:decide ((a:Int)<0)=false:=by simp
 by_cases ha:a<d.length
 ·have d2:decide ((a:Int) ≥ (d.length:Int))=false:=by simp;omega
  simp only [go_sem,jO,d1,d2,wz ha,iNq]
  refine ⟨by omega,?_⟩
  exact Z0
 ·have d2:decide ((a:Int) ≥ (d.length:Int))=true:=by simp;omega
  have e:d.getD a 0=0:=by rw [gEq,gNq (by omega)];rfl
  simp only [go_sem,jO,d1,d2,e]
  exact Z0
theorem Bb {a b:Nat}:max (a:Int) (b:Int)=((max a b:Nat):Int):=by omega
def uy:List AV→AHeap→(AV→Prop)→Prop
 |[.slice _ 7 x],_,K=>∃ t,(x=nds t∧Good t∧t.length≤1000)∧K (.int .i64 ((kg t:Nat):Int))
 |_,_,_=>False
set_option maxHeartbeats 4000000 in
theorem D1:EntOk Tryz.prog 149 (Ent.pure uy):=by
 refine Ype fun _ H K h=>?_
 unfold uy at h
 split at h
 rotate_left
 ·exact h.elim
 rename_i m x
 obtain ⟨t,⟨rfl,hgt,hl⟩,hK⟩:=h
 refine ⟨_,hK,?_⟩
 clear hK
 refine ACalls.fW au (tCq yF tNq) Tryz.func149 [.tmp 2] (nrq _) (T:=aq [(7,[[],[],[],[],[2],[],[],[],[],[2,4,7]])]) (h:=fun hcl hlt=>?_)
 have hm:∀ n',H.nx≤n'→AV.lt n' (.slice m 7 (nds t)):=fun n' hn=>AV.lt_mono hn _ (hlt (.slice m 7 (nds t)) (by simp))
 clear hlt
 by_cases ht0:t=[]
 ·subst ht0
  have hd0:kg []=0:=rfl
  have hkk:((((0:Nat):Int))==0)=true:=rfl
  simp only [go_sem,hd0,yba,a9,zat,hkk]
  exact Z0
 have htp:=List.length_pos_iff.2 ht0
 have d1:((t.length:Int)==0)=false:=by simp;omega
 simp only [go_sem,a9,iNq,d1]
 refine az (A:=Nat) (fun k=>[(3,.slice (.own H.nx) 1 (its (eM (t.take k)))),(11,.slice m 7 (nds t)),(12,.int .i64 (t.length:Int)),(13,.int .i64 (k:Int))]) (fun k=>H.push (.buf 1 k)) (fun k=>k≤t.length) (fun k=>t.length - k) 0 (by omega) ?_ fun k hk=>?_
 ·have e0:its (eM (t.take 0))=[]:=rfl
  (simp only [bkq,enterW,aJ,ltF,ne_eq,Nat.reduceEqDiff,reduceCtorEq,hm,e0];try simp (disch:=first|exact Zd|omega) [↓zmo,beq,ybc,ybd,ybe,ae,wk,wk2,wk1,wkM,wkL,ah,ybf,byq,biq,aG,hcl,hm,e0];try (repeat' (first|assumption|omega|exact True.intro|refine And.intro ?_ ?_|refine ag ?_|refine af ?_|refine aa ?_ ?_|refine aj ?_ ?_|refine ay ?_|exact lRq _|refine lPq ?_ _|refine AHeap.Le.del ?_ ?_|(simp only [bt,and_true,true_and,hm,e0];first|done|omega|(simp;done)))))
 have hcl1:∀ k,(H.push (.buf 1 k)).Closed:=fun k=>ag hcl
 have hil:(its (eM (t.take k))).length=k:=by rw [jO,eo hk]
 simp only [go_sem]
 refine ai (fun hc=>?_) (fun hc=>?_)
 ·have hk1:k<t.length:=by simp at hc;omega
  have e5:=Yk5 k
  obtain ⟨g1,g2,g3,g4⟩:=hgt k t[k] (by simp [hk1])
  have hkn:(H.nx=H.nx+1)=False:=eq_false (by omega)
  have hdl:∀ a,(eM (t.take k)).getD a 0≤k:=fun a=>xe (BW (by omega)) a
  have w1:∀ a,IntKind.i64.wrap ((((eM (t.take k)).getD a 0:Nat):Int)+1)=((1+(eM (t.take k)).getD a 0:Nat):Int):=fun a=>by
   have:=hdl a
   rw [wrap_i64]<;>omega
  simp only [go_sem,a9,fQ hk1,iNq,hkn,ox]
  refine ⟨by omega,eM (t.take k),⟨rfl,by omega,by rw [eo hk],by rw [eo hk];omega⟩,eM (t.take k),⟨rfl,by omega,by rw [eo hk],by rw [eo hk];omega⟩,?_⟩
  have hsn:∀ d:Nat,d=dAt (eM (t.take k)) t[k]→its (eM (t.take k))++[AV.int .i64 (d:Int)]=its (eM (t.take (k+1))):=fun d hd=>by rw [rc hk1,← hd,Gs]
  have hsz:dAt (eM (t.take k)) t[k]=0→its (eM (t.take k))++[AV.int .i64 0]=its (eM (t.take (k+1))):=fun hd=>hsn 0 hd.symm
  have hb:=hdl t[k].a
  generalize hop:t[k].op=op at g1 g2 g4
  rcases (by omega:op=1∨op=2∨op=3∨op=4∨op=5∨op=16∨(6≤op∧op≤15)) with ho|ho|ho|ho|ho|ho|ho
  ·subst ho
   have b1:((((1:Nat):Int))==1)=true:=rfl
   have b2:((((1:Nat):Int))==2)=false:=rfl
   have b3:((((1:Nat):Int))==3)=false:=rfl
   have b4:((((1:Nat):Int))==4)=false:=rfl
   have b5:((((1:Nat):Int))==5)=false:=rfl
   have b16:((((1:Nat):Int))==16)=false:=rfl
   have hv:0=dAt (eM (t.take k)) t[k]:=by unfold dAt;rw [if_pos (by omega)]
   simp only [go_sem,a9,iNq,hkn,hop,zat,zau,b1,b2,b3,b4,b5,b16,hil,w1,Bb,e5,hsz hv.symm]
   refine ⟨⟨by omega,by omega,by simp [bf,AV.cells,AV.one]⟩,k+1,by omega,by omega,?_⟩
   exact Z18
  ·subst ho
   have b1:((((2:Nat):Int))==1)=false:=rfl
   have b2:((((2:Nat):Int))==2)=true:=rfl
   have b3:((((2:Nat):Int))==3)=false:=rfl
   have b4:((((2:Nat):Int))==4)=false:=rfl
   have b5:((((2:Nat):Int))==5)=false:=rfl
   have b16:((((2:Nat):Int))==16)=false:=rfl
   have hv:0=dAt (eM (t.take k)) t[k]:=by unfold dAt;rw [if_pos (by omega)]
   simp only [go_sem,a9,iNq,hkn,hop,zat,zau,b1,b2,b3,b4,b5,b16,hil,w1,Bb,e5,hsz hv.symm]
   refine ⟨⟨by omega,by omega,by simp [bf,AV.cells,AV.one]⟩,k+1,by omega,by omega,?_⟩
   exact Z18
  ·subst ho
   have b1:((((3:Nat):Int))==1)=false:=rfl
   have b2:((((3:Nat):Int))==2)=false:=rfl
   have b3:((((3:Nat):Int))==3)=true:=rfl
   have b4:((((3:Nat):Int))==4)=false:=rfl
   have b5:((((3:Nat):Int))==5)=false:=rfl
   have b16:((((3:Nat):Int))==16)=false:=rfl
   have hv:0=dAt (eM (t.take k)) t[k]:=by unfold dAt;rw [if_pos (by omega)]
   simp only [go_sem,a9,iNq,hkn,hop,zat,zau,b1,b2,b3,b4,b5,b16,hil,w1,Bb,e5,hsz hv.symm]
   refine ⟨⟨by omega,by omega,by simp [bf,AV.cells,AV.one]⟩,k+1,by omega,by omega,?_⟩
   exact Z18
  ·subst ho
   have b1:((((4:Nat):Int))==1)=false:=rfl
   have b2:((((4:Nat):Int))==2)=false:=rfl
   have b3:((((4:Nat):Int))==3)=false:=rfl
   have b4:((((4:Nat):Int))==4)=true:=rfl
   have b5:((((4:Nat):Int))==5)=false:=rfl
   have b16:((((4:Nat):Int))==16)=false:=rfl
   have hv:1+(eM (t.take k)).getD t[k].a 0=dAt (eM (t.take k)) t[k]:=by unfold dAt;rw [if_neg (by omega),if_pos (by omega)]
   simp only [go_sem,a9,iNq,hkn,hop,zat,zau,b1,b2,b3,b4,b5,b16,hil,w1,Bb,e5,hsn _ hv]
   refine ⟨⟨by omega,by omega,by simp [bf,AV.cells,AV.one]⟩,k+1,by omega,by omega,?_⟩
   exact Z18
  ·subst ho
   have b1:((((5:Nat):Int))==1)=false:=rfl
   have b2:((((5:Nat):Int))==2)=false:=rfl
   have b3:((((5:Nat):Int))==3)=false:=rfl
   have b4:((((5:Nat):Int))==4)=false:=rfl
   have b5:((((5:Nat):Int))==5)=true:=rfl
   have b16:((((5:Nat):Int))==16)=false:=rfl
   have hv:1+(eM (t.take k)).getD t[k].a 0=dAt (eM (t.take k)) t[k]:=by unfold dAt;rw [if_neg (by omega),if_pos (by omega)]
   simp only [go_sem,a9,iNq,hkn,hop,zat,zau,b1,b2,b3,b4,b5,b16,hil,w1,Bb,e5,hsn _ hv]
   refine ⟨⟨by omega,by omega,by simp [bf,AV.cells,AV.one]⟩,k+1,by omega,by omega,?_⟩
   exact Z18
  ·subst ho
   have b1:((((16:Nat):Int))==1)=false:=rfl
   have b2:((((16:Nat):Int))==2)=false:=rfl
   have b3:((((16:Nat):Int))==3)=false:=rfl
   have b4:((((16:Nat):Int))==4)=false:=rfl
   have b5:((((16:Nat):Int))==5)=false:=rfl
   have b16:((((16:Nat):Int))==16)=true:=rfl
   have hv:max ((eM (t.take k)).getD t[k].a 0) (1+(eM (t.take k)).getD t[k].b 0)=dAt (eM (t.take k)) t[k]:=by unfold dAt;rw [if_neg (by omega),if_neg (by omega),if_pos (by omega)]
   simp only [go_sem,a9,iNq,hkn,hop,zat,zau,b1,b2,b3,b4,b5,b16,hil,w1,Bb,e5,hsn _ hv]
   refine ⟨⟨by omega,by omega,by simp [bf,AV.cells,AV.one]⟩,k+1,by omega,by omega,?_⟩
   exact Z18
  ·have b1:((op:Int)==1)=false:=by simp;omega
   have b2:((op:Int)==2)=false:=by simp;omega
   have b3:((op:Int)==3)=false:=by simp;omega
   have b4:((op:Int)==4)=false:=by simp;omega
   have b5:((op:Int)==5)=false:=by simp;omega
   have b16:((op:Int)==16)=false:=by simp;omega
   have hv:max ((eM (t.take k)).getD t[k].a 0) ((eM (t.take k)).getD t[k].b 0)=dAt (eM (t.take k)) t[k]:=by unfold dAt;rw [if_neg (by omega),if_neg (by omega),if_neg (by omega)]
   simp only [go_sem,a9,iNq,hkn,hop,zat,zau,b1,b2,b3,b4,b5,b16,hil,w1,Bb,e5,hsn _ hv]
   refine ⟨⟨by omega,by omega,by simp [bf,AV.cells,AV.one]⟩,k+1,by omega,by omega,?_⟩
   exact Z18
 ·have hk1:k=t.length:=by simp at hc;omega
  subst hk1
  have e6:IntKind.i64.wrap ((t.length:Int) - 1)=((t.length - 1:Nat):Int):=by rw [wrap_i64]<;>omega
  have hge:=wz (d:=eM t) (a:=t.length - 1) (by rw [Gf];omega)
  rw [show (eM t).getD (t.length - 1) 0=kg t from rfl] at hge
  rw [List.take_length] at hil
  simp only [go_sem,a9,List.take_length,hil,e6,hge,iNq]
  refine ⟨by omega,?_⟩
  simp (disch:=first|exact Zd|omega) [↓zmo,beq,ybc,ybd,ybe,ae,wk,wk2,wk1,wkM,wkL,ah,ybf,hcl,hcl1]
def yj (t:List Nd):Bool:=decide (120<t.length)||decide (12<kg t)
def lD (l:List Tok):PR→AV
 |.ok _ p t=>if p<l.length then .tup [.slice .any 7 [],.int .i64 (p:Int),.int .i64 10] else if yj t=true then .tup [.slice .any 7 [],.int .i64 0,.int .i64 11] else .tup [.slice .any 7 (nds t),.int .i64 0,.int .i64 0]
 |.bad p=>.tup [.slice .any 7 [],.int .i64 (p:Int),.int .i64 10]
def tS:List AV→AHeap→(AV→Prop)→Prop
 |[.slice _ 3 x],H,K=>∃ l f r,(x=dV l∧run l f .imp 0 []=some r∧l.length≤1000∧rp l)∧K (lD l r)
 |_,_,_=>False
theorem EF:EntOk Tryz.prog 115 (Ent.pure tS):=by
 refine Ype fun _ H K h=>?_
 unfold tS at h
 split at h
 rotate_left
 ·exact h.elim
 rename_i m x
 obtain ⟨l,f,r,⟨rfl,hr,hl,hgl⟩,hK⟩:=h
 refine ⟨_,hK,?_⟩
 clear hK
 have hw:=cf f hr Good.nil trivial (Nat.zero_le _)
 refine ACalls.fW au (tCq F8 (tCq D1 tNq)) Tryz.func115 [.tmp 2,.tmp 3,.tmp 4] (nrq _) (T:=aq []) (h:=fun hcl hlt=>?_)
 clear hlt
 simp only [go_sem,wB]
 refine ⟨l,f,r,⟨rfl,hr,hl,hgl⟩,?_⟩
 cases r with
 |bad q =>
  simp only [go_sem,qE,lD]
  exact Z6
 |ok a p t =>
  obtain ⟨k1,k2,k3,k4,k5,k6⟩:=hw
  simp only [qE,lD]
  by_cases hp:p<l.length
  ·simp only [if_pos hp,go_sem]
   exact Z6
  ·have ht:t.length≤1000:=by simp at k3;omega
   simp only [if_neg hp,go_sem,a9]
   by_cases h1:120<t.length
   ·have hb:yj t=true:=by unfold yj;simp [h1]
    have d1:decide ((t.length:Int) > 120)=true:=by simp;omega
    rw [if_pos hb]
    simp only [d1,go_sem]
    exact Z6
   ·have d1:decide ((t.length:Int) > 120)=false:=by simp;omega
    simp only [d1,go_sem,uy]
    refine ⟨t,⟨rfl,k5,ht⟩,?_⟩
    by_cases h2:12<kg t
    ·have hb:yj t=true:=by unfold yj;simp [h2]
     have d2:decide (((kg t:Nat):Int) > 12)=true:=by simp;omega
     rw [if_pos hb]
     simp only [d2,go_sem]
     exact Z6
    ·have hb:¬ yj t=true:=by unfold yj;simp;omega
     have d2:decide (((kg t:Nat):Int) > 12)=false:=by simp;omega
     rw [if_neg hb]
     simp only [d2,go_sem]
     simp (disch:=first|exact Zd|omega) [↓zmo,beq,ybc,ybd,ybe,ae,wk,wk2,wk1,wkM,wkL,ah,ybf,hcl,qA]
end Go.AL
