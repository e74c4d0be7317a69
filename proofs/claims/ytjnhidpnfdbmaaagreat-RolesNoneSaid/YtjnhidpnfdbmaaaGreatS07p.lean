/- Lemmas of the proof; no condition. -/
import Derived.Test.YtjnhidpnfdbmaaaGreatS07u
import Derived.Test.YtjnhidpnfdbmaaaGreatS07d
import Derived.Test.YtjnhidpnfdbmaaaGreatLSyn2
set_option linter.all false
set_option maxRecDepth 10000
open List renaming length_cons → yaz, length_nil → yba, take_of_length_le → ybc, drop_append → ybd, take_append → ybe, drop_eq_nil_of_le → ybf
open Go Go.AL Go.Proofs
namespace Go.AL
def its (d:List Nat):List AV:=d.map fun (n:Nat)=>.int .i64 (n:Int)
theorem jw {d:List Nat}:(its d).length=d.length:=by simp [its]
theorem xc {d:List Nat} {a:Nat} (h:a<d.length):(its d).getD a .junk=.int .i64 ((d.getD a 0:Nat):Int):=by
 simp [its,gEq,h]
theorem Fs {d:List Nat} {n:Nat}:its d++[.int .i64 (n:Int)]=its (d++[n]):=by simp [its]
theorem cL {n:Nat} {m:Mark} {d:List Nat}:AV.lt n (.slice m 1 (its d))=∀ id,m=.own id→id<n:=by
 rw [AV.lt]
 refine propext ⟨fun h=>h.1,fun h=>⟨h,fun j hj=>?_⟩⟩
 simp only [its,List.getElem_map]
 simp [znf]
theorem fD {t:List Nd} {k:Nat} (h:k<t.length):(nds t).getD k .junk=.agg [.int .i64 (t[k].op:Int),.int .i64 (t[k].a:Int),.int .i64 (t[k].b:Int),.str t[k].name,.str t[k].attr,.int .u64 ((t[k].v/2^64:Nat):Int),.int .u64 ((t[k].v % 2^64:Nat):Int)]:=by
 simp [nds,qn,gEq,h]
def oE:List AV→AHeap→(AV→Prop)→Prop
 |[.slice _ 1 x,.int .i64 a,.int .i64 i],_,K=>∃ d,(x=its d∧0≤a∧i=(d.length:Int)∧d.length≤100000)∧K (.int .i64 ((d.getD a.toNat 0:Nat):Int))
 |_,_,_=>False
theorem yF:EntOk Tryz.prog 176 (Ent.pure oE):=by
 refine Ype fun _ H K h=>?_
 unfold oE at h
 split at h
 rotate_left
 ·exact h.elim
 rename_i m x a i
 obtain ⟨d,⟨rfl,h1,rfl,hd⟩,hK⟩:=h
 refine ⟨_,hK,?_⟩
 clear hK
 obtain ⟨a,rfl⟩:=bU h1
 simp only [iNq]
 refine ACalls.fW ax tNq Tryz.func176 [.tmp 6] (nrq _) (T:=aq []) (h:=fun hcl hlt=>?_)
 clear hlt
 have d1:decide ((a:Int)<0)=false:=by simp
 by_cases ha:a<d.length
 ·have d2:decide ((a:Int) ≥ (d.length:Int))=false:=by simp;omega
  simp only [go_sem,jw,d1,d2,xc ha,iNq]
  refine ⟨by omega,?_⟩
  exact Z0
 ·have d2:decide ((a:Int) ≥ (d.length:Int))=true:=by simp;omega
  have e:d.getD a 0=0:=by rw [gEq,gNq (by omega)];rfl
  simp only [go_sem,jw,d1,d2,e]
  exact Z0
theorem A5 {a b:Nat}:max (a:Int) (b:Int)=((max a b:Nat):Int):=by omega
def t6:List AV→AHeap→(AV→Prop)→Prop
 |[.slice _ 7 x],_,K=>∃ t,(x=nds t∧Good t∧t.length≤1000)∧K (.int .i64 ((jM t:Nat):Int))
 |_,_,_=>False
set_option maxHeartbeats 4000000 in
theorem Du:EntOk Tryz.prog 149 (Ent.pure t6):=by
 refine Ype fun _ H K h=>?_
 unfold t6 at h
 split at h
 rotate_left
 ·exact h.elim
 rename_i m x
 obtain ⟨t,⟨rfl,hgt,hl⟩,hK⟩:=h
 refine ⟨_,hK,?_⟩
 clear hK
 refine ACalls.fW ax (tCq yF tNq) Tryz.func149 [.tmp 2] (nrq _) (T:=aq [(7,[[],[],[],[],[2],[],[],[],[],[2,4,7]])]) (h:=fun hcl hlt=>?_)
 have hm:∀ n',H.nx≤n'→AV.lt n' (.slice m 7 (nds t)):=fun n' hn=>AV.lt_mono hn _ (hlt (.slice m 7 (nds t)) (by simp))
 clear hlt
 by_cases ht0:t=[]
 ·subst ht0
  have hd0:jM []=0:=rfl
  have hkk:((((0:Nat):Int))==0)=true:=rfl
  simp only [go_sem,hd0,yba,bb,zat,hkk]
  exact Z0
 have htp:=List.length_pos_iff.2 ht0
 have d1:((t.length:Int)==0)=false:=by simp;omega
 simp only [go_sem,bb,iNq,d1]
 refine aE (A:=Nat) (fun k=>[(3,.slice (.own H.nx) 1 (its (eE (t.take k)))),(11,.slice m 7 (nds t)),(12,.int .i64 (t.length:Int)),(13,.int .i64 (k:Int))]) (fun k=>H.push (.buf 1 k)) (fun k=>k≤t.length) (fun k=>t.length - k) 0 (by omega) ?_ fun k hk=>?_
 ·have e0:its (eE (t.take 0))=[]:=rfl
  (simp only [bkq,enterW,aK,ltF,ne_eq,Nat.reduceEqDiff,reduceCtorEq,hm,e0];try simp (disch:=first|exact Zd|omega) [↓zmo,beq,ybc,ybd,ybe,ae,wk,wk2,wk1,wkM,wkL,ah,ybf,byq,biq,aH,hcl,hm,e0];try (repeat' (first|assumption|omega|exact True.intro|refine And.intro ?_ ?_|refine ag ?_|refine af ?_|refine aa ?_ ?_|refine ai ?_ ?_|refine az ?_|exact lRq _|refine lPq ?_ _|refine AHeap.Le.del ?_ ?_|(simp only [bt,and_true,true_and,hm,e0];first|done|omega|(simp;done)))))
 have hcl1:∀ k,(H.push (.buf 1 k)).Closed:=fun k=>ag hcl
 have hil:(its (eE (t.take k))).length=k:=by rw [jw,d8 hk]
 simp only [go_sem]
 refine aj (fun hc=>?_) (fun hc=>?_)
 ·have hk1:k<t.length:=by simp at hc;omega
  have e5:=Yk5 k
  obtain ⟨g1,g2,g3,g4⟩:=hgt k t[k] (by simp [hk1])
  have hkn:(H.nx=H.nx+1)=False:=eq_false (by omega)
  have hdl:∀ a,(eE (t.take k)).getD a 0≤k:=fun a=>wB (BC (by omega)) a
  have w1:∀ a,IntKind.i64.wrap ((((eE (t.take k)).getD a 0:Nat):Int)+1)=((1+(eE (t.take k)).getD a 0:Nat):Int):=fun a=>by
   have:=hdl a
   rw [wrap_i64]<;>omega
  simp only [go_sem,bb,fD hk1,iNq,hkn,oE]
  refine ⟨by omega,eE (t.take k),⟨rfl,by omega,by rw [d8 hk],by rw [d8 hk];omega⟩,eE (t.take k),⟨rfl,by omega,by rw [d8 hk],by rw [d8 hk];omega⟩,?_⟩
  have hsn:∀ d:Nat,d=dAt (eE (t.take k)) t[k]→its (eE (t.take k))++[AV.int .i64 (d:Int)]=its (eE (t.take (k+1))):=fun d hd=>by rw [qk hk1,← hd,Fs]
  have hsz:dAt (eE (t.take k)) t[k]=0→its (eE (t.take k))++[AV.int .i64 0]=its (eE (t.take (k+1))):=fun hd=>hsn 0 hd.symm
  have hb:=hdl t[k].a
  generalize hop:t[k].op=op at g1 g2 g4
  rcases (by omega:op=1∨op=2∨op=3∨op=4∨op=5∨op=16∨(6≤op∧op≤15)) with ho|ho|ho|ho|ho|ho|ho
  ·subst ho
   have b1:((((1:Nat):Int))==1)=true:=rfl
   have b2:((((1:Nat):Int))==2)=false:=rfl
   have b3:((((1:Nat):Int))==3)=false:=rfl
   have b4:((((1:Nat):Int))==4)=false:=rfl
   have b5:((((1:Nat):Int))==5)=false:=rfl
   have b16:((((1:Nat):Int))==16)=false:=rfl
   have hv:0=dAt (eE (t.take k)) t[k]:=by unfold dAt;rw [if_pos (by omega)]
   simp only [go_sem,bb,iNq,hkn,hop,zat,zau,b1,b2,b3,b4,b5,b16,hil,w1,A5,e5,hsz hv.symm]
   refine ⟨⟨by omega,by omega,by simp [bg,AV.cells,AV.one]⟩,k+1,by omega,by omega,?_⟩
   exact Z18
  ·subst ho
   have b1:((((2:Nat):Int))==1)=false:=rfl
   have b2:((((2:Nat):Int))==2)=true:=rfl
   have b3:((((2:Nat):Int))==3)=false:=rfl
   have b4:((((2:Nat):Int))==4)=false:=rfl
   have b5:((((2:Nat):Int))==5)=false:=rfl
   have b16:((((2:Nat):Int))==16)=false:=rfl
   have hv:0=dAt (eE (t.take k)) t[k]:=by unfold dAt;rw [if_pos (by omega)]
   simp only [go_sem,bb,iNq,hkn,hop,zat,zau,b1,b2,b3,b4,b5,b16,hil,w1,A5,e5,hsz hv.symm]
   refine ⟨⟨by omega,by omega,by simp [bg,AV.cells,AV.one]⟩,k+1,by omega,by omega,?_⟩
   exact Z18
  ·subst ho
   have b1:((((3:Nat):Int))==1)=false:=rfl
   have b2:((((3:Nat):Int))==2)=false:=rfl
   have b3:((((3:Nat):Int))==3)=true:=rfl
   have b4:((((3:Nat):Int))==4)=false:=rfl
   have b5:((((3:Nat):Int))==5)=false:=rfl
   have b16:((((3:Nat):Int))==16)=false:=rfl
   have hv:0=dAt (eE (t.take k)) t[k]:=by unfold dAt;rw [if_pos (by omega)]
   simp only [go_sem,bb,iNq,hkn,hop,zat,zau,b1,b2,b3,b4,b5,b16,hil,w1,A5,e5,hsz hv.symm]
   refine ⟨⟨by omega,by omega,by simp [bg,AV.cells,AV.one]⟩,k+1,by omega,by omega,?_⟩
   exact Z18
  ·subst ho
   have b1:((((4:Nat):Int))==1)=false:=rfl
   have b2:((((4:Nat):Int))==2)=false:=rfl
   have b3:((((4:Nat):Int))==3)=false:=rfl
   have b4:((((4:Nat):Int))==4)=true:=rfl
   have b5:((((4:Nat):Int))==5)=false:=rfl
   have b16:((((4:Nat):Int))==16)=false:=rfl
   have hv:1+(eE (t.take k)).getD t[k].a 0=dAt (eE (t.take k)) t[k]:=by unfold dAt;rw [if_neg (by omega),if_pos (by omega)]
   simp only [go_sem,bb,iNq,hkn,hop,zat,zau,b1,b2,b3,b4,b5,b16,hil,w1,A5,e5,hsn _ hv]
   refine ⟨⟨by omega,by omega,by simp [bg,AV.cells,AV.one]⟩,k+1,by omega,by omega,?_⟩
   exact Z18
  ·subst ho
   have b1:((((5:Nat):Int))==1)=false:=rfl
   have b2:((((5:Nat):Int))==2)=false:=rfl
   have b3:((((5:Nat):Int))==3)=false:=rfl
   have b4:((((5:Nat):Int))==4)=false:=rfl
   have b5:((((5:Nat):Int))==5)=true:=rfl
   have b16:((((5:Nat):Int))==16)=false:=rfl
   have hv:1+(eE (t.take k)).getD t[k].a 0=dAt (eE (t.take k)) t[k]:=by unfold dAt;rw [if_neg (by omega),if_pos (by omega)]
   simp only [go_sem,bb,iNq,hkn,hop,zat,zau,b1,b2,b3,b4,b5,b16,hil,w1,A5,e5,hsn _ hv]
   refine ⟨⟨by omega,by omega,by simp [bg,AV.cells,AV.one]⟩,k+1,by omega,by omega,?_⟩
   exact Z18
  ·subst ho
   have b1:((((16:Nat):Int))==1)=false:=rfl
   have b2:((((16:Nat):Int))==2)=false:=rfl
   have b3:((((16:Nat):Int))==3)=false:=rfl
   have b4:((((16:Nat):Int))==4)=false:=rfl
   have b5:((((16:Nat):Int))==5)=false:=rfl
   have b16:((((16:Nat):Int))==16)=true:=rfl
   have hv:max ((eE (t.take k)).getD t[k].a 0) (1+(eE (t.take k)).getD t[k].b 0)=dAt (eE (t.take k)) t[k]:=by unfold dAt;rw [if_neg (by omega),if_neg (by omega),if_pos (by omega)]
   simp only [go_sem,bb,iNq,hkn,hop,zat,zau,b1,b2,b3,b4,b5,b16,hil,w1,A5,e5,hsn _ hv]
   refine ⟨⟨by omega,by omega,by simp [bg,AV.cells,AV.one]⟩,k+1,by omega,by omega,?_⟩
   exact Z18
  ·have b1:((op:Int)==1)=false:=by simp;omega
   have b2:((op:Int)==2)=false:=by simp;omega
   have b3:((op:Int)==3)=false:=by simp;omega
   have b4:((op:Int)==4)=false:=by simp;omega
   have b5:((op:Int)==5)=false:=by simp;omega
   have b16:((op:Int)==16)=false:=by simp;omega
   have hv:max ((eE (t.take k)).getD t[k].a 0) ((eE (t.take k)).getD t[k].b 0)=dAt (eE (t.take k)) t[k]:=by unfold dAt;rw [if_neg (by omega),if_neg (by omega),if_neg (by omega)]
   simp only [go_sem,bb,iNq,hkn,hop,zat,zau,b1,b2,b3,b4,b5,b16,hil,w1,A5,e5,hsn _ hv]
   refine ⟨⟨by omega,by omega,by simp [bg,AV.cells,AV.one]⟩,k+1,by omega,by omega,?_⟩
   exact Z18
 ·have hk1:k=t.length:=by simp at hc;omega
  subst hk1
  have e6:IntKind.i64.wrap ((t.length:Int) - 1)=((t.length - 1:Nat):Int):=by rw [wrap_i64]<;>omega
  have hge:=xc (d:=eE t) (a:=t.length - 1) (by rw [Hh];omega)
  rw [show (eE t).getD (t.length - 1) 0=jM t from rfl] at hge
  rw [List.take_length] at hil
  simp only [go_sem,bb,List.take_length,hil,e6,hge,iNq]
  refine ⟨by omega,?_⟩
  simp (disch:=first|exact Zd|omega) [↓zmo,beq,ybc,ybd,ybe,ae,wk,wk2,wk1,wkM,wkL,ah,ybf,hcl,hcl1]
def yA (t:List Nd):Bool:=decide (120<t.length)||decide (12<jM t)
def lh (l:List Tok):PR→AV
 |.ok _ p t=>if p<l.length then .tup [.slice .any 7 [],.int .i64 (p:Int),.int .i64 10] else if yA t=true then .tup [.slice .any 7 [],.int .i64 0,.int .i64 11] else .tup [.slice .any 7 (nds t),.int .i64 0,.int .i64 0]
 |.bad p=>.tup [.slice .any 7 [],.int .i64 (p:Int),.int .i64 10]
def uo:List AV→AHeap→(AV→Prop)→Prop
 |[.slice _ 3 x],H,K=>∃ l f r,(x=dH l∧run l f .imp 0 []=some r∧l.length≤1000∧qV l)∧K (lh l r)
 |_,_,_=>False
theorem DX:EntOk Tryz.prog 115 (Ent.pure uo):=by
 refine Ype fun _ H K h=>?_
 unfold uo at h
 split at h
 rotate_left
 ·exact h.elim
 rename_i m x
 obtain ⟨l,f,r,⟨rfl,hr,hl,hgl⟩,hK⟩:=h
 refine ⟨_,hK,?_⟩
 clear hK
 have hw:=cg f hr Good.nil trivial (Nat.zero_le _)
 refine ACalls.fW ax (tCq Ft (tCq Du tNq)) Tryz.func115 [.tmp 2,.tmp 3,.tmp 4] (nrq _) (T:=aq []) (h:=fun hcl hlt=>?_)
 clear hlt
 simp only [go_sem,xE]
 refine ⟨l,f,r,⟨rfl,hr,hl,hgl⟩,?_⟩
 cases r with
 |bad q =>
  simp only [go_sem,qj,lh]
  exact Z6
 |ok a p t =>
  obtain ⟨k1,k2,k3,k4,k5,k6⟩:=hw
  simp only [qj,lh]
  by_cases hp:p<l.length
  ·simp only [if_pos hp,go_sem]
   exact Z6
  ·have ht:t.length≤1000:=by simp at k3;omega
   simp only [if_neg hp,go_sem,bb]
   by_cases h1:120<t.length
   ·have hb:yA t=true:=by unfold yA;simp [h1]
    have d1:decide ((t.length:Int) > 120)=true:=by simp;omega
    rw [if_pos hb]
    simp only [d1,go_sem]
    exact Z6
   ·have d1:decide ((t.length:Int) > 120)=false:=by simp;omega
    simp only [d1,go_sem,t6]
    refine ⟨t,⟨rfl,k5,ht⟩,?_⟩
    by_cases h2:12<jM t
    ·have hb:yA t=true:=by unfold yA;simp [h2]
     have d2:decide (((jM t:Nat):Int) > 12)=true:=by simp;omega
     rw [if_pos hb]
     simp only [d2,go_sem]
     exact Z6
    ·have hb:¬ yA t=true:=by unfold yA;simp;omega
     have d2:decide (((jM t:Nat):Int) > 12)=false:=by simp;omega
     rw [if_neg hb]
     simp only [d2,go_sem]
     simp (disch:=first|exact Zd|omega) [↓zmo,beq,ybc,ybd,ybe,ae,wk,wk2,wk1,wkM,wkL,ah,ybf,hcl,pT]
end Go.AL
