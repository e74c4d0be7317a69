/- Contracts and plain laws, a part of the proof; no condition of its own. -/
import Derived.Test.YtokjjhidigoodaaS07u
import Derived.Test.YtokjjhidigoodaaS07d
import Derived.Test.YtokjjhidigoodaaLSyn2
open List renaming length_cons → yaz, length_nil → yba, take_of_length_le → ybc, drop_append → ybd, take_append → ybe, drop_eq_nil_of_le → ybf
open Go Go.AL Go.Proofs
namespace Go.AL
set_option linter.all false
set_option maxRecDepth 10000
def its (d:List Nat):List AV:=d.map fun (n:Nat)=>.int .i64 (n:Int)
theorem gT {d:List Nat}:(its d).length=d.length:=by simp [its]
theorem rd {d:List Nat} {a:Nat} (h:a<d.length):(its d).getD a .junk=.int .i64 ((d.getD a 0:Nat):Int):=by
 simp [its,List.getD_eq_getElem?_getD,h]
theorem zG {d:List Nat} {n:Nat}:its d++[.int .i64 (n:Int)]=its (d++[n]):=by simp [its]
theorem cj {n:Nat} {m:Mark} {d:List Nat}:AV.lt n (.slice m 1 (its d))=∀ id,m=.own id→id<n:=by
 rw [AV.lt]
 refine propext ⟨fun h=>h.1,fun h=>⟨h,fun j hj=>?_⟩⟩
 simp only [its,List.getElem_map]
 simp [znb]
theorem ek {t:List Nd} {k:Nat} (h:k<t.length):(nds t).getD k .junk=.agg [.int .i64 (t[k].op:Int),.int .i64 (t[k].a:Int),.int .i64 (t[k].b:Int),.str t[k].name,.str t[k].attr,.int .u64 ((t[k].v/2^64:Nat):Int),.int .u64 ((t[k].v % 2^64:Nat):Int)]:=by
 simp [nds,mA,List.getD_eq_getElem?_getD,h]
def ll:List AV→AHeap→(AV→Prop)→Prop
 |[.slice _ 1 x,.int .i64 a,.int .i64 i],_,K=>∃ d,(x=its d∧0≤a∧i=(d.length:Int)∧d.length≤100000)∧K (.int .i64 ((d.getD a.toNat 0:Nat):Int))
 |_,_,_=>False
theorem ub:EntOk Try.prog 79 (Ent.pure ll):=by
 refine EntOk.pure fun args H K h=>?_
 unfold ll at h
 split at h
 rotate_left
 ·exact h.elim
 rename_i m x a i
 obtain ⟨d,⟨rfl,h1,rfl,hd⟩,hK⟩:=h
 refine ⟨_,hK,?_⟩
 clear hK
 obtain ⟨a,rfl⟩:=eB h1
 simp only [Int.toNat_natCast]
 refine ACalls.fW aD TblOk.nil Try.func79 [.tmp 6] (Nat.le_refl _) (T:=az []) (h:=fun hcl hlt=>?_)
 clear hlt
 have d1:decide ((a:Int)<0)=false:=by simp
 by_cases ha:a<d.length
 ·have d2:decide ((a:Int) ≥ (d.length:Int))=false:=by simp;omega
  simp only [go_sem,gT,d1,d2,rd ha,Int.toNat_natCast]
  refine ⟨by omega,?_⟩
  simp (disch:=first|assumption|omega|(simp;done)|(simp;omega)|(simp only [bt,and_true];first|done|omega|(simp;done))) [↓zmk,beq,ybc,ybd,ybe,ag,wk,wk2,wk1,wkM,wkL,am,ybf,hcl]
 ·have d2:decide ((a:Int) ≥ (d.length:Int))=true:=by simp;omega
  have e:d.getD a 0=0:=by rw [List.getD_eq_getElem?_getD,List.getElem?_eq_none (by omega)];rfl
  simp only [go_sem,gT,d1,d2,e]
  simp (disch:=first|assumption|omega|(simp;done)|(simp;omega)|(simp only [bt,and_true];first|done|omega|(simp;done))) [↓zmk,beq,ybc,ybd,ybe,ag,wk,wk2,wk1,wkM,wkL,am,ybf,hcl]
theorem uO {a b:Nat}:max (a:Int) (b:Int)=((max a b:Nat):Int):=by omega
end Go.AL
open Go Go.AL Go.Proofs
namespace Go.AL
set_option linter.all false
set_option maxRecDepth 10000
def oC:List AV→AHeap→(AV→Prop)→Prop
 |[.slice _ 7 x],_,K=>∃ t,(x=nds t∧Good t∧t.length≤1000)∧K (.int .i64 ((g9 t:Nat):Int))
 |_,_,_=>False
set_option maxHeartbeats 4000000 in
theorem w9:EntOk Try.prog 56 (Ent.pure oC):=by
 refine EntOk.pure fun args H K h=>?_
 unfold oC at h
 split at h
 rotate_left
 ·exact h.elim
 rename_i m x
 obtain ⟨t,⟨rfl,hgt,hl⟩,hK⟩:=h
 refine ⟨_,hK,?_⟩
 clear hK
 refine ACalls.fW aD (TblOk.cons ub TblOk.nil) Try.func56 [.tmp 2] (Nat.le_refl _) (T:=az [(7,[[],[],[],[],[2],[],[],[],[],[2,4,7]])]) (h:=fun hcl hlt=>?_)
 have hm:∀ n',H.nx≤n'→AV.lt n' (.slice m 7 (nds t)):=fun n' hn=>AV.lt_mono hn _ (hlt (.slice m 7 (nds t)) (by simp))
 clear hlt
 by_cases ht0:t=[]
 ·subst ht0
  have hd0:g9 []=0:=rfl
  have hkk:((((0:Nat):Int))==0)=true:=rfl
  simp only [go_sem,hd0,yba,aJ,zat,hkk]
  simp (disch:=first|assumption|omega|(simp;done)|(simp;omega)|(simp only [bt,and_true];first|done|omega|(simp;done))) [↓zmk,beq,ybc,ybd,ybe,ag,wk,wk2,wk1,wkM,wkL,am,ybf,hcl]
 have htp:=List.length_pos_iff.2 ht0
 have d1:((t.length:Int)==0)=false:=by simp;omega
 simp only [go_sem,aJ,Int.toNat_natCast,d1]
 refine aB (A:=Nat) (fun k=>[(3,.slice (.own H.nx) 1 (its (dc (t.take k)))),(11,.slice m 7 (nds t)),(12,.int .i64 (t.length:Int)),(13,.int .i64 (k:Int))]) (fun k=>H.push (.buf 1 k)) (fun k=>k≤t.length) (fun k=>t.length - k) 0 (by omega) ?_ fun k hk=>?_
 ·have e0:its (dc (t.take 0))=[]:=rfl
  (simp only [bkq,enterW,aI,ltF,ne_eq,Nat.reduceEqDiff,reduceCtorEq,hm,e0];try simp (disch:=first|assumption|omega|(simp;done)|(simp;omega)|(simp only [bt,and_true];first|done|omega|(simp;done))) [↓zmk,beq,ybc,ybd,ybe,ag,wk,wk2,wk1,wkM,wkL,am,ybf,byq,biq,au,hcl,hm,e0];try (repeat' (first|assumption|omega|exact True.intro|refine And.intro ?_ ?_|refine af ?_|refine aa ?_|refine ae ?_ ?_|refine ah ?_ ?_|refine ak ?_|exact AHeap.Le.refl _|refine AHeap.Le.push ?_ _|refine AHeap.Le.del ?_ ?_|(simp only [bt,and_true,true_and,hm,e0];first|done|omega|(simp;done)))))
 have hcl1:∀ k,(H.push (.buf 1 k)).Closed:=fun k=>af hcl
 have hil:(its (dc (t.take k))).length=k:=by rw [gT,c7 hk]
 simp only [go_sem]
 refine ax (fun hc=>?_) (fun hc=>?_)
 ·have hk1:k<t.length:=by simp at hc;omega
  have e5:IntKind.i64.wrap ((k:Int)+1)=((k+1:Nat):Int):=by rw [wrap_i64]<;>omega
  obtain ⟨g1,g2,g3,g4⟩:=hgt k t[k] (by simp [hk1])
  have hkn:(H.nx=H.nx+1)=False:=eq_false (by omega)
  have hdl:∀ a,(dc (t.take k)).getD a 0≤k:=fun a=>rK (wA (by omega)) a
  have w1:∀ a,IntKind.i64.wrap ((((dc (t.take k)).getD a 0:Nat):Int)+1)=((1+(dc (t.take k)).getD a 0:Nat):Int):=fun a=>by
   have:=hdl a
   rw [wrap_i64]<;>omega
  simp only [go_sem,aJ,ek hk1,Int.toNat_natCast,hkn,ll]
  refine ⟨by omega,dc (t.take k),⟨rfl,by omega,by rw [c7 hk],by rw [c7 hk];omega⟩,dc (t.take k),⟨rfl,by omega,by rw [c7 hk],by rw [c7 hk];omega⟩,?_⟩
  have hsn:∀ d:Nat,d=dAt (dc (t.take k)) t[k]→its (dc (t.take k))++[AV.int .i64 (d:Int)]=its (dc (t.take (k+1))):=fun d hd=>by rw [mm hk1,← hd,zG]
  have hsz:dAt (dc (t.take k)) t[k]=0→its (dc (t.take k))++[AV.int .i64 0]=its (dc (t.take (k+1))):=fun hd=>hsn 0 hd.symm
  have hb:=hdl t[k].a
  generalize hop:t[k].op=op at g1 g2 g4
  rcases (by omega:op=1∨op=2∨op=3∨op=4∨op=5∨op=16∨(6≤op∧op≤15)) with ho|ho|ho|ho|ho|ho|ho
  ·subst ho
   have b1:((((1:Nat):Int))==1)=true:=rfl
   have b2:((((1:Nat):Int))==2)=false:=rfl
   have b3:((((1:Nat):Int))==3)=false:=rfl
   have b4:((((1:Nat):Int))==4)=false:=rfl
   have b5:((((1:Nat):Int))==5)=false:=rfl
   have b16:((((1:Nat):Int))==16)=false:=rfl
   have hv:0=dAt (dc (t.take k)) t[k]:=by unfold dAt;rw [if_pos (by omega)]
   simp only [go_sem,aJ,Int.toNat_natCast,hkn,hop,zat,zau,b1,b2,b3,b4,b5,b16,hil,w1,uO,e5,hsz hv.symm]
   refine ⟨⟨by omega,by omega,by simp [aW,AV.cells,AV.one]⟩,k+1,by omega,by omega,?_⟩
   (simp only [bkq,enterW,aI,ltF,ne_eq,Nat.reduceEqDiff,reduceCtorEq,hm,cj];try simp (disch:=first|assumption|omega|(simp;done)|(simp;omega)|(simp only [bt,and_true];first|done|omega|(simp;done))) [↓zmk,beq,ybc,ybd,ybe,ag,wk,wk2,wk1,wkM,wkL,am,ybf,byq,biq,au,hcl,hm,cj];try (repeat' (first|assumption|omega|exact True.intro|refine And.intro ?_ ?_|refine af ?_|refine aa ?_|refine ae ?_ ?_|refine ah ?_ ?_|refine ak ?_|exact AHeap.Le.refl _|refine AHeap.Le.push ?_ _|refine AHeap.Le.del ?_ ?_|(simp only [bt,and_true,true_and,hm,cj];first|done|omega|(simp;done)))))
  ·subst ho
   have b1:((((2:Nat):Int))==1)=false:=rfl
   have b2:((((2:Nat):Int))==2)=true:=rfl
   have b3:((((2:Nat):Int))==3)=false:=rfl
   have b4:((((2:Nat):Int))==4)=false:=rfl
   have b5:((((2:Nat):Int))==5)=false:=rfl
   have b16:((((2:Nat):Int))==16)=false:=rfl
   have hv:0=dAt (dc (t.take k)) t[k]:=by unfold dAt;rw [if_pos (by omega)]
   simp only [go_sem,aJ,Int.toNat_natCast,hkn,hop,zat,zau,b1,b2,b3,b4,b5,b16,hil,w1,uO,e5,hsz hv.symm]
   refine ⟨⟨by omega,by omega,by simp [aW,AV.cells,AV.one]⟩,k+1,by omega,by omega,?_⟩
   (simp only [bkq,enterW,aI,ltF,ne_eq,Nat.reduceEqDiff,reduceCtorEq,hm,cj];try simp (disch:=first|assumption|omega|(simp;done)|(simp;omega)|(simp only [bt,and_true];first|done|omega|(simp;done))) [↓zmk,beq,ybc,ybd,ybe,ag,wk,wk2,wk1,wkM,wkL,am,ybf,byq,biq,au,hcl,hm,cj];try (repeat' (first|assumption|omega|exact True.intro|refine And.intro ?_ ?_|refine af ?_|refine aa ?_|refine ae ?_ ?_|refine ah ?_ ?_|refine ak ?_|exact AHeap.Le.refl _|refine AHeap.Le.push ?_ _|refine AHeap.Le.del ?_ ?_|(simp only [bt,and_true,true_and,hm,cj];first|done|omega|(simp;done)))))
  ·subst ho
   have b1:((((3:Nat):Int))==1)=false:=rfl
   have b2:((((3:Nat):Int))==2)=false:=rfl
   have b3:((((3:Nat):Int))==3)=true:=rfl
   have b4:((((3:Nat):Int))==4)=false:=rfl
   have b5:((((3:Nat):Int))==5)=false:=rfl
   have b16:((((3:Nat):Int))==16)=false:=rfl
   have hv:0=dAt (dc (t.take k)) t[k]:=by unfold dAt;rw [if_pos (by omega)]
   simp only [go_sem,aJ,Int.toNat_natCast,hkn,hop,zat,zau,b1,b2,b3,b4,b5,b16,hil,w1,uO,e5,hsz hv.symm]
   refine ⟨⟨by omega,by omega,by simp [aW,AV.cells,AV.one]⟩,k+1,by omega,by omega,?_⟩
   (simp only [bkq,enterW,aI,ltF,ne_eq,Nat.reduceEqDiff,reduceCtorEq,hm,cj];try simp (disch:=first|assumption|omega|(simp;done)|(simp;omega)|(simp only [bt,and_true];first|done|omega|(simp;done))) [↓zmk,beq,ybc,ybd,ybe,ag,wk,wk2,wk1,wkM,wkL,am,ybf,byq,biq,au,hcl,hm,cj];try (repeat' (first|assumption|omega|exact True.intro|refine And.intro ?_ ?_|refine af ?_|refine aa ?_|refine ae ?_ ?_|refine ah ?_ ?_|refine ak ?_|exact AHeap.Le.refl _|refine AHeap.Le.push ?_ _|refine AHeap.Le.del ?_ ?_|(simp only [bt,and_true,true_and,hm,cj];first|done|omega|(simp;done)))))
  ·subst ho
   have b1:((((4:Nat):Int))==1)=false:=rfl
   have b2:((((4:Nat):Int))==2)=false:=rfl
   have b3:((((4:Nat):Int))==3)=false:=rfl
   have b4:((((4:Nat):Int))==4)=true:=rfl
   have b5:((((4:Nat):Int))==5)=false:=rfl
   have b16:((((4:Nat):Int))==16)=false:=rfl
   have hv:1+(dc (t.take k)).getD t[k].a 0=dAt (dc (t.take k)) t[k]:=by unfold dAt;rw [if_neg (by omega),if_pos (by omega)]
   simp only [go_sem,aJ,Int.toNat_natCast,hkn,hop,zat,zau,b1,b2,b3,b4,b5,b16,hil,w1,uO,e5,hsn _ hv]
   refine ⟨⟨by omega,by omega,by simp [aW,AV.cells,AV.one]⟩,k+1,by omega,by omega,?_⟩
   (simp only [bkq,enterW,aI,ltF,ne_eq,Nat.reduceEqDiff,reduceCtorEq,hm,cj];try simp (disch:=first|assumption|omega|(simp;done)|(simp;omega)|(simp only [bt,and_true];first|done|omega|(simp;done))) [↓zmk,beq,ybc,ybd,ybe,ag,wk,wk2,wk1,wkM,wkL,am,ybf,byq,biq,au,hcl,hm,cj];try (repeat' (first|assumption|omega|exact True.intro|refine And.intro ?_ ?_|refine af ?_|refine aa ?_|refine ae ?_ ?_|refine ah ?_ ?_|refine ak ?_|exact AHeap.Le.refl _|refine AHeap.Le.push ?_ _|refine AHeap.Le.del ?_ ?_|(simp only [bt,and_true,true_and,hm,cj];first|done|omega|(simp;done)))))
  ·subst ho
   have b1:((((5:Nat):Int))==1)=false:=rfl
   have b2:((((5:Nat):Int))==2)=false:=rfl
   have b3:((((5:Nat):Int))==3)=false:=rfl
   have b4:((((5:Nat):Int))==4)=false:=rfl
   have b5:((((5:Nat):Int))==5)=true:=rfl
   have b16:((((5:Nat):Int))==16)=false:=rfl
   have hv:1+(dc (t.take k)).getD t[k].a 0=dAt (dc (t.take k)) t[k]:=by unfold dAt;rw [if_neg (by omega),if_pos (by omega)]
   simp only [go_sem,aJ,Int.toNat_natCast,hkn,hop,zat,zau,b1,b2,b3,b4,b5,b16,hil,w1,uO,e5,hsn _ hv]
   refine ⟨⟨by omega,by omega,by simp [aW,AV.cells,AV.one]⟩,k+1,by omega,by omega,?_⟩
   (simp only [bkq,enterW,aI,ltF,ne_eq,Nat.reduceEqDiff,reduceCtorEq,hm,cj];try simp (disch:=first|assumption|omega|(simp;done)|(simp;omega)|(simp only [bt,and_true];first|done|omega|(simp;done))) [↓zmk,beq,ybc,ybd,ybe,ag,wk,wk2,wk1,wkM,wkL,am,ybf,byq,biq,au,hcl,hm,cj];try (repeat' (first|assumption|omega|exact True.intro|refine And.intro ?_ ?_|refine af ?_|refine aa ?_|refine ae ?_ ?_|refine ah ?_ ?_|refine ak ?_|exact AHeap.Le.refl _|refine AHeap.Le.push ?_ _|refine AHeap.Le.del ?_ ?_|(simp only [bt,and_true,true_and,hm,cj];first|done|omega|(simp;done)))))
  ·subst ho
   have b1:((((16:Nat):Int))==1)=false:=rfl
   have b2:((((16:Nat):Int))==2)=false:=rfl
   have b3:((((16:Nat):Int))==3)=false:=rfl
   have b4:((((16:Nat):Int))==4)=false:=rfl
   have b5:((((16:Nat):Int))==5)=false:=rfl
   have b16:((((16:Nat):Int))==16)=true:=rfl
   have hv:max ((dc (t.take k)).getD t[k].a 0) (1+(dc (t.take k)).getD t[k].b 0)=dAt (dc (t.take k)) t[k]:=by unfold dAt;rw [if_neg (by omega),if_neg (by omega),if_pos (by omega)]
   simp only [go_sem,aJ,Int.toNat_natCast,hkn,hop,zat,zau,b1,b2,b3,b4,b5,b16,hil,w1,uO,e5,hsn _ hv]
   refine ⟨⟨by omega,by omega,by simp [aW,AV.cells,AV.one]⟩,k+1,by omega,by omega,?_⟩
   (simp only [bkq,enterW,aI,ltF,ne_eq,Nat.reduceEqDiff,reduceCtorEq,hm,cj];try simp (disch:=first|assumption|omega|(simp;done)|(simp;omega)|(simp only [bt,and_true];first|done|omega|(simp;done))) [↓zmk,beq,ybc,ybd,ybe,ag,wk,wk2,wk1,wkM,wkL,am,ybf,byq,biq,au,hcl,hm,cj];try (repeat' (first|assumption|omega|exact True.intro|refine And.intro ?_ ?_|refine af ?_|refine aa ?_|refine ae ?_ ?_|refine ah ?_ ?_|refine ak ?_|exact AHeap.Le.refl _|refine AHeap.Le.push ?_ _|refine AHeap.Le.del ?_ ?_|(simp only [bt,and_true,true_and,hm,cj];first|done|omega|(simp;done)))))
  ·have b1:((op:Int)==1)=false:=by simp;omega
   have b2:((op:Int)==2)=false:=by simp;omega
   have b3:((op:Int)==3)=false:=by simp;omega
   have b4:((op:Int)==4)=false:=by simp;omega
   have b5:((op:Int)==5)=false:=by simp;omega
   have b16:((op:Int)==16)=false:=by simp;omega
   have hv:max ((dc (t.take k)).getD t[k].a 0) ((dc (t.take k)).getD t[k].b 0)=dAt (dc (t.take k)) t[k]:=by unfold dAt;rw [if_neg (by omega),if_neg (by omega),if_neg (by omega)]
   simp only [go_sem,aJ,Int.toNat_natCast,hkn,hop,zat,zau,b1,b2,b3,b4,b5,b16,hil,w1,uO,e5,hsn _ hv]
   refine ⟨⟨by omega,by omega,by simp [aW,AV.cells,AV.one]⟩,k+1,by omega,by omega,?_⟩
   (simp only [bkq,enterW,aI,ltF,ne_eq,Nat.reduceEqDiff,reduceCtorEq,hm,cj];try simp (disch:=first|assumption|omega|(simp;done)|(simp;omega)|(simp only [bt,and_true];first|done|omega|(simp;done))) [↓zmk,beq,ybc,ybd,ybe,ag,wk,wk2,wk1,wkM,wkL,am,ybf,byq,biq,au,hcl,hm,cj];try (repeat' (first|assumption|omega|exact True.intro|refine And.intro ?_ ?_|refine af ?_|refine aa ?_|refine ae ?_ ?_|refine ah ?_ ?_|refine ak ?_|exact AHeap.Le.refl _|refine AHeap.Le.push ?_ _|refine AHeap.Le.del ?_ ?_|(simp only [bt,and_true,true_and,hm,cj];first|done|omega|(simp;done)))))
 ·have hk1:k=t.length:=by simp at hc;omega
  subst hk1
  have e6:IntKind.i64.wrap ((t.length:Int) - 1)=((t.length - 1:Nat):Int):=by rw [wrap_i64]<;>omega
  have hge:=rd (d:=dc t) (a:=t.length - 1) (by rw [zM];omega)
  rw [show (dc t).getD (t.length - 1) 0=g9 t from rfl] at hge
  rw [List.take_length] at hil
  simp only [go_sem,aJ,List.take_length,hil,e6,hge,Int.toNat_natCast]
  refine ⟨by omega,?_⟩
  simp (disch:=first|assumption|omega|(simp;done)|(simp;omega)|(simp only [bt,and_true];first|done|omega|(simp;done))) [↓zmk,beq,ybc,ybd,ybe,ag,wk,wk2,wk1,wkM,wkL,am,ybf,hcl,hcl1]
end Go.AL
open Go Go.AL Go.Proofs
namespace Go.AL
set_option linter.all false
set_option maxRecDepth 10000
def sB (t:List Nd):Bool:=decide (120<t.length)||decide (12<g9 t)
def i6 (l:List Tok):PR→AV
 |.ok _ p t=>if p<l.length then .tup [.slice .any 7 [],.int .i64 (p:Int),.int .i64 10] else if sB t=true then .tup [.slice .any 7 [],.int .i64 0,.int .i64 11] else .tup [.slice .any 7 (nds t),.int .i64 0,.int .i64 0]
 |.bad p=>.tup [.slice .any 7 [],.int .i64 (p:Int),.int .i64 10]
def n9:List AV→AHeap→(AV→Prop)→Prop
 |[.slice _ 3 x],H,K=>∃ l f r,(x=cV l∧run l f .imp 0 []=some r∧l.length≤1000∧mT l)∧K (i6 l r)
 |_,_,_=>False
theorem wH:EntOk Try.prog 38 (Ent.pure n9):=by
 refine EntOk.pure fun args H K h=>?_
 unfold n9 at h
 split at h
 rotate_left
 ·exact h.elim
 rename_i m x
 obtain ⟨l,f,r,⟨rfl,hr,hl,hgl⟩,hK⟩:=h
 refine ⟨_,hK,?_⟩
 clear hK
 have hw:=bL f hr Good.nil trivial (Nat.zero_le _)
 refine ACalls.fW aD (TblOk.cons zL (TblOk.cons w9 TblOk.nil)) Try.func38 [.tmp 2,.tmp 3,.tmp 4] (Nat.le_refl _) (T:=az []) (h:=fun hcl hlt=>?_)
 clear hlt
 simp only [go_sem,rR]
 refine ⟨l,f,r,⟨rfl,hr,hl,hgl⟩,?_⟩
 cases r with
 |bad q =>
  simp only [go_sem,mK,i6]
  simp (disch:=first|assumption|omega|(simp;done)|(simp;omega)|(simp only [bt,and_true];first|done|omega|(simp;done))) [↓zmk,beq,ybc,ybd,ybe,ag,wk,wk2,wk1,wkM,wkL,am,ybf,hcl,fY]
 |ok a p t =>
  obtain ⟨k1,k2,k3,k4,k5,k6⟩:=hw
  simp only [mK,i6]
  by_cases hp:p<l.length
  ·simp only [if_pos hp,go_sem]
   simp (disch:=first|assumption|omega|(simp;done)|(simp;omega)|(simp only [bt,and_true];first|done|omega|(simp;done))) [↓zmk,beq,ybc,ybd,ybe,ag,wk,wk2,wk1,wkM,wkL,am,ybf,hcl,fY]
  ·have ht:t.length≤1000:=by simp at k3;omega
   simp only [if_neg hp,go_sem,aJ]
   by_cases h1:120<t.length
   ·have hb:sB t=true:=by unfold sB;simp [h1]
    have d1:decide ((t.length:Int) > 120)=true:=by simp;omega
    rw [if_pos hb]
    simp only [d1,go_sem]
    simp (disch:=first|assumption|omega|(simp;done)|(simp;omega)|(simp only [bt,and_true];first|done|omega|(simp;done))) [↓zmk,beq,ybc,ybd,ybe,ag,wk,wk2,wk1,wkM,wkL,am,ybf,hcl,fY]
   ·have d1:decide ((t.length:Int) > 120)=false:=by simp;omega
    simp only [d1,go_sem,oC]
    refine ⟨t,⟨rfl,k5,ht⟩,?_⟩
    by_cases h2:12<g9 t
    ·have hb:sB t=true:=by unfold sB;simp [h2]
     have d2:decide (((g9 t:Nat):Int) > 12)=true:=by simp;omega
     rw [if_pos hb]
     simp only [d2,go_sem]
     simp (disch:=first|assumption|omega|(simp;done)|(simp;omega)|(simp only [bt,and_true];first|done|omega|(simp;done))) [↓zmk,beq,ybc,ybd,ybe,ag,wk,wk2,wk1,wkM,wkL,am,ybf,hcl,fY]
    ·have hb:¬ sB t=true:=by unfold sB;simp;omega
     have d2:decide (((g9 t:Nat):Int) > 12)=false:=by simp;omega
     rw [if_neg hb]
     simp only [d2,go_sem]
     simp (disch:=first|assumption|omega|(simp;done)|(simp;omega)|(simp only [bt,and_true];first|done|omega|(simp;done))) [↓zmk,beq,ybc,ybd,ybe,ag,wk,wk2,wk1,wkM,wkL,am,ybf,hcl,mq]
end Go.AL
