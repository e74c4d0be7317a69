/- Contracts and plain laws, a part of the proof; no condition of its own. -/
import Derived.Test.YtokjjhidigoodaaS08i
import Derived.Test.YtokjjhidigoodaaLEval
set_option maxHeartbeats 32000000
open List renaming length_cons → yaz, length_nil → yba, take_of_length_le → ybc, drop_append → ybd, take_append → ybe, drop_eq_nil_of_le → ybf, getD_cons_zero → yau, take_succ_cons → yaq, take_zero → yar, drop_succ_cons → yao, drop_zero → yap
open Go Go.AL Go.Proofs
namespace Go.AL
set_option linter.all false
set_option maxRecDepth 10000
theorem kc:ti Try.prog 131=some ⟨.struct [(0,128,false)],3,24,.agg [.int .u64 0,.int .u64 0,.int .u64 0]⟩:=by kernel_rfl
theorem nM:ti Try.prog 124=some ⟨.bool,1,1,.bool false⟩:=by kernel_rfl
theorem Av:ti Try.prog 123=some ⟨.iface 1,1,16,.nili⟩:=by kernel_rfl
theorem xd:ti Try.prog 121=some ⟨.slice 123,1,24,.slice .nil 1 []⟩:=by kernel_rfl
theorem A3:ti Try.prog 97=some ⟨.struct [(0,9,false),(1,9,false),(2,95,false)],4,48,.agg [.str [],.str [],.int .u64 0,.int .u64 0]⟩:=by kernel_rfl
theorem xw:ti Try.prog 59=some ⟨.slice 97,1,24,.slice .nil 1 []⟩:=by kernel_rfl
attribute [go_sem] kc nM Av xd A3 xw
def mAV:Mv→AV
 |.i z=>.iface 131 (nAV z)
 |.b x=>.iface 124 (.bool x)
def ey (x:VN × Nat):AV:=.agg [.str x.1.1,.str x.1.2,.int .u64 ((x.2/2^64:Nat):Int),.int .u64 ((x.2 % 2^64:Nat):Int)]
def ay (l:List (VN × Nat)):List AV:=l.map ey
theorem av {l:List (VN × Nat)}:(ay l).length=l.length:=by simp [ay]
theorem np {l:List (VN × Nat)} {k:Nat} (h:k<l.length):(ay l).getD k .junk=.agg [.str l[k].1.1,.str l[k].1.2,.int .u64 ((l[k].2/2^64:Nat):Int),.int .u64 ((l[k].2 % 2^64:Nat):Int)]:=by
 simp [ay,ey,List.getD_eq_getElem?_getD,h]
theorem aj {n:Nat} {m:Mark} {l:List (VN × Nat)}:AV.lt n (.slice m 4 (ay l))=∀ id,m=.own id→id<n:=by
 rw [AV.lt]
 refine propext ⟨fun h=>h.1,fun h=>⟨h,fun j hj=>?_⟩⟩
 simp only [ay,List.getElem_map,ey]
 simp [znn,znq,znr,znd,znb]
def cE:List AV→AHeap→(AV→Prop)→Prop
 |[x],_,K=>∃ z,x=nAV z∧K (.bool false)
 |_,_,_=>False
theorem oc:EntOk Try.prog 121 (Ent.pure cE):=by
 refine EntOk.pure fun args H K h=>?_
 unfold cE at h
 split at h
 rotate_left
 ·exact h.elim
 obtain ⟨z,rfl,hK⟩:=h
 refine ⟨_,hK,?_⟩
 clear hK
 refine ACalls.fW aD TblOk.nil Try.func121 [.tmp 2] (Nat.le_refl _) (T:=az []) (h:=fun hcl hlt=>?_)
 clear hlt
 simp only [go_sem,nAV]
 simp (disch:=first|assumption|omega|(simp;done)|(simp;omega)|(simp only [bt,and_true];first|done|omega|(simp;done))) [↓zmk,beq,ybc,ybd,ybe,ag,wk,wk2,wk1,wkM,wkL,am,ybf,hcl]
def cD:List AV→AHeap→(AV→Prop)→Prop
 |[.bool x],_,K=>K (.bool x)
 |_,_,_=>False
theorem pi:EntOk Try.prog 86 (Ent.pure cD):=by
 refine EntOk.pure fun args H K h=>?_
 unfold cD at h
 split at h
 rotate_left
 ·exact h.elim
 refine ⟨_,h,?_⟩
 clear h
 refine ACalls.fW aD TblOk.nil Try.func86 [.tmp 2] (Nat.le_refl _) (T:=az []) (h:=fun hcl hlt=>?_)
 clear hlt
 simp only [go_sem]
 simp (disch:=first|assumption|omega|(simp;done)|(simp;omega)|(simp only [bt,and_true];first|done|omega|(simp;done))) [↓zmk,beq,ybc,ybd,ybe,ag,wk,wk2,wk1,wkM,wkL,am,ybf,hcl]
theorem sG:nAV 0=.agg [.int .u64 0,.int .u64 0,.int .u64 0]:=by rfl
theorem nL:(124=131)=False:=eq_false (by decide)
def ox:List AV→AHeap→(AV→Prop)→Prop
 |[x],_,K=>∃ m,x=mAV m∧K (nAV m.num)
 |_,_,_=>False
theorem nc:EntOk Try.prog 61 (Ent.pure ox):=by
 refine EntOk.pure fun args H K h=>?_
 unfold ox at h
 split at h
 rotate_left
 ·exact h.elim
 obtain ⟨m,rfl,hK⟩:=h
 refine ⟨_,hK,?_⟩
 clear hK
 cases m with
 |i z =>
  refine ACalls.fW aD TblOk.nil Try.func61 [.cell 2 128] (Nat.le_refl _) (T:=az []) (h:=fun hcl hlt=>?_)
  clear hlt
  simp only [go_sem,mAV,Mv.num,ep,kc,if_true,nAV]
  simp (disch:=first|assumption|omega|(simp;done)|(simp;omega)|(simp only [bt,and_true];first|done|omega|(simp;done))) [↓zmk,beq,ybc,ybd,ybe,ag,wk,wk2,wk1,wkM,wkL,am,ybf,hcl]
 |b x =>
  refine ACalls.fW aD TblOk.nil Try.func61 [.cell 2 128] (Nat.le_refl _) (T:=az []) (h:=fun hcl hlt=>?_)
  clear hlt
  simp only [go_sem,mAV,Mv.num,sG,ep,kc,nL]
  simp (disch:=first|assumption|omega|(simp;done)|(simp;omega)|(simp only [bt,and_true];first|done|omega|(simp;done))) [↓zmk,beq,ybc,ybd,ybe,ag,wk,wk2,wk1,wkM,wkL,am,ybf,hcl]
def Cg (e:List (VN × Nat)):Prop:=e.length<4611686018427387904∧∀ x∈e,x.2<340282366920938463463374607431768211456
def qQ:List AV→AHeap→(AV→Prop)→Prop
 |[x,.slice _ 4 y],_,K=>∃ n e,(x=mA n∧y=ay e∧Cg e)∧K (nAV (jk e (n.name,n.attr)))
 |_,_,_=>False
theorem lk {y x:VN} {v:Nat} {l:List (VN × Nat)}:jk ((y,v)::l) x=if y=x then (v:Int) else jk l x:=rfl
theorem uQ:EntOk Try.prog 42 (Ent.pure qQ):=by
 refine EntOk.pure fun args H K h=>?_
 unfold qQ at h
 split at h
 rotate_left
 ·exact h.elim
 rename_i x m y
 obtain ⟨n,e,⟨rfl,rfl,hl,hv⟩,hK⟩:=h
 obtain ⟨Q,hQ⟩:∃ Q,jk e (n.name,n.attr)=Q:=⟨_,rfl⟩
 rw [hQ] at hK
 refine ⟨_,hK,?_⟩
 clear hK
 refine ACalls.fW aD (TblOk.cons tJ (TblOk.cons AH TblOk.nil)) Try.func42 [.cell 4 128] (Nat.le_refl _) (T:=az []) (h:=fun hcl hlt=>?_)
 have hm:∀ n',H.nx≤n'→AV.lt n' (.slice m 4 (ay e)):=fun n' hn=>AV.lt_mono hn _ (hlt (.slice m 4 (ay e)) (by simp))
 clear hlt
 simp only [go_sem,mA,av]
 refine aB (A:=Nat) (fun j=>[(2,.ptr H.nx 0),(4,.ptr (H.nx+1) 0),(7,.slice m 4 (ay e)),(8,.int .i64 (e.length:Int)),(9,.int .i64 (j:Int))])
  (fun _=>(H.push (.cells [.int .i64 (n.op:Int),.int .i64 (n.a:Int),.int .i64 (n.b:Int),.str n.name,.str n.attr,.int .u64 ((n.v/2^64:Nat):Int),.int .u64 ((n.v % 2^64:Nat):Int)])).push (.cells [.int .u64 0,.int .u64 0,.int .u64 0])) (fun j=>j≤e.length∧jk (e.drop j) (n.name,n.attr)=Q) (fun j=>e.length - j) 0 ⟨Nat.zero_le _,hQ⟩ ?_ fun j hj=>?_
 ·(simp only [bkq,enterW,aI,ltF,ne_eq,Nat.reduceEqDiff,reduceCtorEq,hm];try simp (disch:=first|assumption|omega|(simp;done)|(simp;omega)|(simp only [bt,and_true];first|done|omega|(simp;done))) [↓zmk,beq,ybc,ybd,ybe,ag,wk,wk2,wk1,wkM,wkL,am,ybf,byq,biq,au,hcl,hm];try (repeat' (first|assumption|omega|exact True.intro|refine And.intro ?_ ?_|refine af ?_|refine aa ?_|refine ae ?_ ?_|refine ah ?_ ?_|refine ak ?_|exact AHeap.Le.refl _|refine AHeap.Le.push ?_ _|refine AHeap.Le.del ?_ ?_|(simp only [bt,and_true,true_and,hm];first|done|omega|(simp;done)))))
 obtain ⟨hj,hq⟩:=hj
 simp only [go_sem]
 refine ax (fun hc=>?_) (fun hc=>?_)
 ·have hj1:j<e.length:=by simp at hc;omega
  have e5:IntKind.i64.wrap ((j:Int)+1)=((j+1:Nat):Int):=by rw [wrap_i64]<;>omega
  have hne:(H.nx=H.nx+2)=False:=eq_false (by omega)
  have hv1:e[j].2<340282366920938463463374607431768211456:=hv e[j] (List.getElem_mem hj1)
  rw [List.drop_eq_getElem_cons hj1] at hq
  have hz:((((e[j].2/2^64:Nat):Int)*2^64+((e[j].2 % 2^64:Nat):Int):Int))=(e[j].2:Int):=by omega
  simp only [go_sem,av,np hj1,Int.toNat_natCast,hne,e5]
  refine ⟨by omega,fun h1=>?_,fun h1=>?_⟩
  ·cases h2:(e[j].1.2==n.attr)
   ·have hx:¬ (e[j].1=(n.name,n.attr)):=fun h=>by rw [h] at h2;simp at h2
    rw [show e[j]=(e[j].1,e[j].2) from rfl,lk,if_neg hx] at hq
    simp only [go_sem,h2]
    refine ⟨j+1,⟨by omega,hq⟩,by omega,?_⟩
    (simp only [bkq,enterW,aI,ltF,ne_eq,Nat.reduceEqDiff,reduceCtorEq,hm];try simp (disch:=first|assumption|omega|(simp;done)|(simp;omega)|(simp only [bt,and_true];first|done|omega|(simp;done))) [↓zmk,beq,ybc,ybd,ybe,ag,wk,wk2,wk1,wkM,wkL,am,ybf,byq,biq,au,hcl,hm];try (repeat' (first|assumption|omega|exact True.intro|refine And.intro ?_ ?_|refine af ?_|refine aa ?_|refine ae ?_ ?_|refine ah ?_ ?_|refine ak ?_|exact AHeap.Le.refl _|refine AHeap.Le.push ?_ _|refine AHeap.Le.del ?_ ?_|(simp only [bt,and_true,true_and,hm];first|done|omega|(simp;done)))))
   ·have hx:e[j].1=(n.name,n.attr):=Prod.ext (eq_of_beq h1) (eq_of_beq h2)
    rw [show e[j]=(e[j].1,e[j].2) from rfl,lk,if_pos hx] at hq
    subst hq
    simp only [go_sem,h2,nV,hz,nAV]
    refine ⟨by omega,?_⟩
    simp (disch:=first|assumption|omega|(simp;done)|(simp;omega)|(simp only [bt,and_true];first|done|omega|(simp;done))) [↓zmk,beq,ybc,ybd,ybe,ag,wk,wk2,wk1,wkM,wkL,am,ybf,hcl]
  ·have hx:¬ (e[j].1=(n.name,n.attr)):=fun h=>by rw [h] at h1;simp at h1
   rw [show e[j]=(e[j].1,e[j].2) from rfl,lk,if_neg hx] at hq
   refine ⟨j+1,⟨by omega,hq⟩,by omega,?_⟩
   (simp only [bkq,enterW,aI,ltF,ne_eq,Nat.reduceEqDiff,reduceCtorEq,hm];try simp (disch:=first|assumption|omega|(simp;done)|(simp;omega)|(simp only [bt,and_true];first|done|omega|(simp;done))) [↓zmk,beq,ybc,ybd,ybe,ag,wk,wk2,wk1,wkM,wkL,am,ybf,byq,biq,au,hcl,hm];try (repeat' (first|assumption|omega|exact True.intro|refine And.intro ?_ ?_|refine af ?_|refine aa ?_|refine ae ?_ ?_|refine ah ?_ ?_|refine ak ?_|exact AHeap.Le.refl _|refine AHeap.Le.push ?_ _|refine AHeap.Le.del ?_ ?_|(simp only [bt,and_true,true_and,hm];first|done|omega|(simp;done)))))
 ·have hj1:j=e.length:=by simp at hc;omega
  subst hj1
  rw [List.drop_length] at hq
  have hq':0=Q:=hq
  subst hq'
  simp only [go_sem,wu,sG]
  refine ⟨by omega,?_⟩
  simp (disch:=first|assumption|omega|(simp;done)|(simp;omega)|(simp only [bt,and_true];first|done|omega|(simp;done))) [↓zmk,beq,ybc,ybd,ybe,ag,wk,wk2,wk1,wkM,wkL,am,ybf,hcl]
end Go.AL
open Go Go.AL Go.Proofs
namespace Go.AL
set_option linter.all false
set_option maxRecDepth 10000
theorem nQ {a b:Int}:decide (jm a b<0)=decide (a<b):=by unfold jm;split<;>(try split)<;>simp<;>omega
theorem nR {a b:Int}:decide (jm a b≤0)=decide (a≤b):=by unfold jm;split<;>(try split)<;>simp<;>omega
theorem nS {a b:Int}:decide (0<jm a b)=decide (b<a):=by unfold jm;split<;>(try split)<;>simp<;>omega
theorem nU {a b:Int}:decide (0≤jm a b)=decide (b≤a):=by unfold jm;split<;>(try split)<;>simp<;>omega
def kU (op:Nat) (a b:Int):Option Mv :=
 if op=4 then some (.i (-a)) else if op=6 then some (.i (a+b)) else if op=7 then some (.i (a - b))
 else if op=10 then some (.b (decide (a<b))) else if op=11 then some (.b (decide (a≤b))) else if op=12 then some (.b (decide (b<a))) else if op=13 then some (.b (decide (b≤a))) else none
def py:Option Mv→AV
 |some m=>.tup [mAV m,.bool true]
 |none=>.tup [.nili,.bool false]
def u4:List AV→AHeap→(AV→Prop)→Prop
 |[.int .i64 z,x,y],_,K=>∃ op a b,(z=((op:Nat):Int)∧op<100∧x=nAV a∧y=nAV b∧isN a∧isN b∧isN (a - b))∧K (py (kU op a b))
 |_,_,_=>False
theorem Cz:EntOk Try.prog 60 (Ent.pure u4):=by
 refine EntOk.pure fun args H K h=>?_
 unfold u4 at h
 split at h
 rotate_left
 ·exact h.elim
 rename_i z x y
 obtain ⟨op,a,b,⟨rfl,ho,rfl,rfl,ha,hb,hc⟩,hK⟩:=h
 refine ⟨_,hK,?_⟩
 clear hK
 refine ACalls.fW aD (TblOk.cons wD (TblOk.cons rT (TblOk.cons vO (TblOk.cons tR TblOk.nil)))) Try.func60 [.tmp 6,.tmp 7] (Nat.le_refl _) (T:=az []) (h:=fun hcl hlt=>?_)
 clear hlt
 rcases (by omega:op=4∨op=6∨op=7∨op=10∨op=11∨op=12∨op=13∨(op≠4∧op≠6∧op≠7∧op≠10∧op≠11∧op≠12∧op≠13)) with h|h|h|h|h|h|h|h
 ·have hi:(op:Int)=4:=by omega
  have hs:kU op a b=some (.i (-a)):=by subst h;rfl
  simp only [go_sem,nAV,hs,py,mAV,um,hi,Int.reduceBEq]
  refine ⟨a,rfl,?_⟩
  simp (disch:=first|assumption|omega|(simp;done)|(simp;omega)|(simp only [bt,and_true];first|done|omega|(simp;done))) [↓zmk,beq,ybc,ybd,ybe,ag,wk,wk2,wk1,wkM,wkL,am,ybf,hcl]
 ·have hi:(op:Int)=6:=by omega
  have hs:kU op a b=some (.i (a+b)):=by subst h;rfl
  simp only [go_sem,nAV,hs,py,mAV,rL,hi,Int.reduceBEq]
  refine ⟨a,b,⟨rfl,rfl⟩,?_⟩
  simp (disch:=first|assumption|omega|(simp;done)|(simp;omega)|(simp only [bt,and_true];first|done|omega|(simp;done))) [↓zmk,beq,ybc,ybd,ybe,ag,wk,wk2,wk1,wkM,wkL,am,ybf,hcl]
 ·have hi:(op:Int)=7:=by omega
  have hs:kU op a b=some (.i (a - b)):=by subst h;rfl
  simp only [go_sem,nAV,hs,py,mAV,rY,hi,Int.reduceBEq]
  refine ⟨a,b,⟨rfl,rfl⟩,?_⟩
  simp (disch:=first|assumption|omega|(simp;done)|(simp;omega)|(simp only [bt,and_true];first|done|omega|(simp;done))) [↓zmk,beq,ybc,ybd,ybe,ag,wk,wk2,wk1,wkM,wkL,am,ybf,hcl]
 ·have hi:(op:Int)=10:=by omega
  have hs:kU op a b=some (.b (decide (a<b))):=by subst h;rfl
  simp only [go_sem,nAV,hs,py,mAV,fL,hi,Int.reduceBEq]
  refine ⟨a,b,⟨rfl,rfl,ha,hb,hc⟩,?_⟩
  simp only [go_sem,nAV,nQ,nR,nS,nU]
  simp (disch:=first|assumption|omega|(simp;done)|(simp;omega)|(simp only [bt,and_true];first|done|omega|(simp;done))) [↓zmk,beq,ybc,ybd,ybe,ag,wk,wk2,wk1,wkM,wkL,am,ybf,hcl]
 ·have hi:(op:Int)=11:=by omega
  have hs:kU op a b=some (.b (decide (a≤b))):=by subst h;rfl
  simp only [go_sem,nAV,hs,py,mAV,fL,hi,Int.reduceBEq]
  refine ⟨a,b,⟨rfl,rfl,ha,hb,hc⟩,?_⟩
  simp only [go_sem,nAV,nQ,nR,nS,nU]
  simp (disch:=first|assumption|omega|(simp;done)|(simp;omega)|(simp only [bt,and_true];first|done|omega|(simp;done))) [↓zmk,beq,ybc,ybd,ybe,ag,wk,wk2,wk1,wkM,wkL,am,ybf,hcl]
 ·have hi:(op:Int)=12:=by omega
  have hs:kU op a b=some (.b (decide (b<a))):=by subst h;rfl
  simp only [go_sem,nAV,hs,py,mAV,fL,hi,Int.reduceBEq]
  refine ⟨a,b,⟨rfl,rfl,ha,hb,hc⟩,?_⟩
  simp only [go_sem,nAV,nQ,nR,nS,nU]
  simp (disch:=first|assumption|omega|(simp;done)|(simp;omega)|(simp only [bt,and_true];first|done|omega|(simp;done))) [↓zmk,beq,ybc,ybd,ybe,ag,wk,wk2,wk1,wkM,wkL,am,ybf,hcl]
 ·have hi:(op:Int)=13:=by omega
  have hs:kU op a b=some (.b (decide (b≤a))):=by subst h;rfl
  simp only [go_sem,nAV,hs,py,mAV,fL,hi,Int.reduceBEq]
  refine ⟨a,b,⟨rfl,rfl,ha,hb,hc⟩,?_⟩
  simp only [go_sem,nAV,nQ,nR,nS,nU]
  simp (disch:=first|assumption|omega|(simp;done)|(simp;omega)|(simp only [bt,and_true];first|done|omega|(simp;done))) [↓zmk,beq,ybc,ybd,ybe,ag,wk,wk2,wk1,wkM,wkL,am,ybf,hcl]
 ·obtain ⟨h1,h2,h3,h4,h5,h6,h7⟩:=h
  have d1:((op:Int)==4)=false:=beq_eq_false_iff_ne.2 (by omega)
  have d2:((op:Int)==6)=false:=beq_eq_false_iff_ne.2 (by omega)
  have d3:((op:Int)==7)=false:=beq_eq_false_iff_ne.2 (by omega)
  have d4:((op:Int)==10)=false:=beq_eq_false_iff_ne.2 (by omega)
  have d5:((op:Int)==11)=false:=beq_eq_false_iff_ne.2 (by omega)
  have d6:((op:Int)==12)=false:=beq_eq_false_iff_ne.2 (by omega)
  have d7:((op:Int)==13)=false:=beq_eq_false_iff_ne.2 (by omega)
  have hs:kU op a b=none:=by simp [kU,h1,h2,h3,h4,h5,h6,h7]
  simp only [go_sem,nAV,hs,py,d1,d2,d3,d4,d5,d6,d7]
  simp (disch:=first|assumption|omega|(simp;done)|(simp;omega)|(simp only [bt,and_true];first|done|omega|(simp;done))) [↓zmk,beq,ybc,ybd,ybe,ag,wk,wk2,wk1,wkM,wkL,am,ybf,hcl]
theorem eH {z:Int}:mAV (.i z)=.iface 131 (nAV z):=rfl
theorem dZ {x:Bool}:mAV (.b x)=.iface 124 (.bool x):=rfl
def sA:List AV→AHeap→(AV→Prop)→Prop
 |[x,y],_,K=>∃ a b,(x=mAV a∧y=mAV b∧isN a.num∧isN b.num)∧K (.bool (mEq a b))
 |_,_,_=>False
theorem Eu : mth Try.prog 131 "matchguard/eval.holds" = some 121 := by kernel_rfl
theorem D4 : mth Try.prog 124 "matchguard/eval.holds" = some 86 := by kernel_rfl
theorem fw {v : AV} : wR Try.prog "matchguard/eval.holds" (.iface 131 v) = .func (.func 121) [] [] := pb Eu
theorem fu {v : AV} : wR Try.prog "matchguard/eval.holds" (.iface 124 v) = .func (.func 86) [] [] := pb D4
theorem xv:EntOk Try.prog 62 (Ent.pure sA):=by
 refine EntOk.pure fun args H K h=>?_
 unfold sA at h
 split at h
 rotate_left
 ·exact h.elim
 rename_i x y
 obtain ⟨a,b,⟨rfl,rfl,ha,hb⟩,hK⟩:=h
 refine ⟨_,hK,?_⟩
 clear hK
 refine ACalls.fW aD (TblOk.cons nc (TblOk.cons pi (TblOk.cons oc TblOk.nil))) Try.func62 [.tmp 4] (Nat.le_refl _) (T:=az []) (h:=fun hcl hlt=>?_)
 clear hlt
 cases a with
 |i z =>
  have hq:((w0 z==w0 b.num)&&((w1 z==w1 b.num)&&(w2 z==w2 b.num)))=decide (z=b.num):=DY ha hb
  have hz:mEq (.i z) b=decide (z=b.num):=rfl
  simp only [go_sem,eH,ep,kc,nM,nL,if_true,nAV,hz]
  refine ⟨b,rfl,?_⟩
  simp only [go_sem,nAV,Cn,B7,hq,Bool.bne_false]
  simp (disch:=first|assumption|omega|(simp;done)|(simp;omega)|(simp only [bt,and_true];first|done|omega|(simp;done))) [↓zmk,beq,ybc,ybd,ybe,ag,wk,wk2,wk1,wkM,wkL,am,ybf,hcl]
 |b x =>
  cases b with
  |i z =>
   simp only [go_sem,eH,dZ,ep,kc,nM,nL,if_true,nAV,mEq,Mv.bo,fw,fu,zif,cD,cE,Bool.bne_false]
   refine ⟨z,rfl,?_⟩
   simp (disch:=first|assumption|omega|(simp;done)|(simp;omega)|(simp only [bt,and_true];first|done|omega|(simp;done))) [↓zmk,beq,ybc,ybd,ybe,ag,wk,wk2,wk1,wkM,wkL,am,ybf,hcl]
  |b y =>
   simp only [go_sem,eH,dZ,ep,kc,nM,nL,if_true,nAV,mEq,Mv.bo,fw,fu,zif,cD,cE,Bool.bne_false]
   simp (disch:=first|assumption|omega|(simp;done)|(simp;omega)|(simp only [bt,and_true];first|done|omega|(simp;done))) [↓zmk,beq,ybc,ybd,ybe,ag,wk,wk2,wk1,wkM,wkL,am,ybf,hcl]
/-- what the method answers -/
theorem Bp {op:Nat} {a b v:Mv} (h:kU op a.num b.num=some v):opV op a b=v:=by
 unfold kU at h;unfold opV
 repeat' split at h
 all_goals first|(cases h;simp_all;done)|(cases h)
def v6:List AV→AHeap→(AV→Prop)→Prop
 |[.int .i64 z,x,y],_,K=>∃ op a b,(z=((op:Nat):Int)∧3<op∧op<100∧x=mAV a∧y=mAV b∧isN a.num∧isN b.num∧isN (a.num - b.num))∧K (mAV (opV op a b))
 |_,_,_=>False
theorem y5 {op:Nat} {a b:Int} (h:kU op a b=none):op≠4∧op≠6∧op≠7∧op≠10∧op≠11∧op≠12∧op≠13:=by
 unfold kU at h
 repeat' split at h
 all_goals first|(cases h;done)|omega
theorem AJ:EntOk Try.prog 43 (Ent.pure v6):=by
 refine EntOk.pure fun args H K h=>?_
 unfold v6 at h
 split at h
 rotate_left
 ·exact h.elim
 rename_i z x y
 obtain ⟨op,a,b,⟨rfl,h3,ho,rfl,rfl,ha,hb,hc⟩,hK⟩:=h
 refine ⟨_,hK,?_⟩
 clear hK
 refine ACalls.fW aD (TblOk.cons nc (TblOk.cons Cz (TblOk.cons xv (TblOk.cons pi (TblOk.cons oc TblOk.nil))))) Try.func43 [.tmp 6] (Nat.le_refl _) (T:=az []) (h:=fun hcl hlt=>?_)
 clear hlt
 simp only [go_sem]
 refine ⟨a,rfl,?_⟩
 simp only [go_sem]
 refine ⟨b,rfl,?_⟩
 simp only [go_sem,u4]
 refine ⟨op,a.num,b.num,⟨rfl,ho,rfl,rfl,ha,hb,hc⟩,?_⟩
 cases hs:kU op a.num b.num with
 |some v =>
  have hv:=Bp hs
  simp only [go_sem,py,hv]
  cases v<;>simp (disch:=first|assumption|omega|(simp;done)|(simp;omega)|(simp only [bt,and_true];first|done|omega|(simp;done))) [↓zmk,beq,ybc,ybd,ybe,ag,wk,wk2,wk1,wkM,wkL,am,ybf,hcl,mAV,nAV]
 |none =>
  obtain ⟨h4,h6,h7,h10,h11,h12,h13⟩:=y5 hs
  simp only [go_sem,py]
  rcases (by omega:op=8∨op=9∨op=5∨op=14∨op=15∨(op≠8∧op≠9∧op≠5∧op≠14∧op≠15)) with h|h|h|h|h|h
  ·have hi:(op:Int)=8:=by omega
   have hv:opV op a b=.b (mEq a b):=by subst h;rfl
   simp only [go_sem,hi,Int.reduceBEq,hv,dZ]
   refine ⟨a,b,⟨rfl,rfl,ha,hb⟩,?_⟩
   simp only [go_sem]
   simp (disch:=first|assumption|omega|(simp;done)|(simp;omega)|(simp only [bt,and_true];first|done|omega|(simp;done))) [↓zmk,beq,ybc,ybd,ybe,ag,wk,wk2,wk1,wkM,wkL,am,ybf,hcl]
  ·have hi:(op:Int)=9:=by omega
   have hv:opV op a b=.b (!mEq a b):=by subst h;rfl
   simp only [go_sem,hi,Int.reduceBEq,hv,dZ]
   refine ⟨a,b,⟨rfl,rfl,ha,hb⟩,?_⟩
   simp only [go_sem]
   simp (disch:=first|assumption|omega|(simp;done)|(simp;omega)|(simp only [bt,and_true];first|done|omega|(simp;done))) [↓zmk,beq,ybc,ybd,ybe,ag,wk,wk2,wk1,wkM,wkL,am,ybf,hcl]
  ·have hi:(op:Int)=5:=by omega
   have hv:opV op a b=.b (!a.bo):=by subst h;rfl
   rw [hv]
   cases a with
   |i z =>
    simp only [go_sem,hi,Int.reduceBEq,dZ,eH,fw,fu,zif,cD,cE,Mv.bo]
    refine ⟨z,rfl,?_⟩
    simp (disch:=first|assumption|omega|(simp;done)|(simp;omega)|(simp only [bt,and_true];first|done|omega|(simp;done))) [↓zmk,beq,ybc,ybd,ybe,ag,wk,wk2,wk1,wkM,wkL,am,ybf,hcl]
   |b x =>
    simp only [go_sem,hi,Int.reduceBEq,dZ,eH,fw,fu,zif,cD,cE,Mv.bo]
    simp (disch:=first|assumption|omega|(simp;done)|(simp;omega)|(simp only [bt,and_true];first|done|omega|(simp;done))) [↓zmk,beq,ybc,ybd,ybe,ag,wk,wk2,wk1,wkM,wkL,am,ybf,hcl]
  ·have hi:(op:Int)=14:=by omega
   have hv:opV op a b=.b (a.bo&&b.bo):=by subst h;rfl
   rw [hv]
   cases a with
   |i z =>
    cases b with
    |i w =>
     simp only [go_sem,hi,Int.reduceBEq,dZ,eH,fw,fu,zif,cD,cE,Mv.bo]
     refine ⟨z,rfl,?_⟩
     simp (disch:=first|assumption|omega|(simp;done)|(simp;omega)|(simp only [bt,and_true];first|done|omega|(simp;done))) [↓zmk,beq,ybc,ybd,ybe,ag,wk,wk2,wk1,wkM,wkL,am,ybf,hcl]
    |b y =>
     simp only [go_sem,hi,Int.reduceBEq,dZ,eH,fw,fu,zif,cD,cE,Mv.bo]
     refine ⟨z,rfl,?_⟩
     simp (disch:=first|assumption|omega|(simp;done)|(simp;omega)|(simp only [bt,and_true];first|done|omega|(simp;done))) [↓zmk,beq,ybc,ybd,ybe,ag,wk,wk2,wk1,wkM,wkL,am,ybf,hcl]
   |b x =>
    cases b with
    |i w =>
     simp only [go_sem,hi,Int.reduceBEq,dZ,eH,fw,fu,zif,cD,cE,Mv.bo]
     refine ⟨fun hx=>⟨w,rfl,?_⟩,fun hx=>?_⟩<;>simp (disch:=first|assumption|omega|(simp;done)|(simp;omega)|(simp only [bt,and_true];first|done|omega|(simp;done))) [↓zmk,beq,ybc,ybd,ybe,ag,wk,wk2,wk1,wkM,wkL,am,ybf,hcl,hx]
    |b y =>
     simp only [go_sem,hi,Int.reduceBEq,dZ,eH,fw,fu,zif,cD,cE,Mv.bo]
     refine ⟨fun hx=>?_,fun hx=>?_⟩<;>simp (disch:=first|assumption|omega|(simp;done)|(simp;omega)|(simp only [bt,and_true];first|done|omega|(simp;done))) [↓zmk,beq,ybc,ybd,ybe,ag,wk,wk2,wk1,wkM,wkL,am,ybf,hcl,hx]
  ·have hi:(op:Int)=15:=by omega
   have hv:opV op a b=.b (a.bo||b.bo):=by subst h;rfl
   rw [hv]
   cases a with
   |i z =>
    cases b with
    |i w =>
     simp only [go_sem,hi,Int.reduceBEq,dZ,eH,fw,fu,zif,cD,cE,Mv.bo]
     refine ⟨z,rfl,w,rfl,?_⟩
     simp (disch:=first|assumption|omega|(simp;done)|(simp;omega)|(simp only [bt,and_true];first|done|omega|(simp;done))) [↓zmk,beq,ybc,ybd,ybe,ag,wk,wk2,wk1,wkM,wkL,am,ybf,hcl]
    |b y =>
     simp only [go_sem,hi,Int.reduceBEq,dZ,eH,fw,fu,zif,cD,cE,Mv.bo]
     refine ⟨z,rfl,?_⟩
     simp (disch:=first|assumption|omega|(simp;done)|(simp;omega)|(simp only [bt,and_true];first|done|omega|(simp;done))) [↓zmk,beq,ybc,ybd,ybe,ag,wk,wk2,wk1,wkM,wkL,am,ybf,hcl]
   |b x =>
    cases b with
    |i w =>
     simp only [go_sem,hi,Int.reduceBEq,dZ,eH,fw,fu,zif,cD,cE,Mv.bo]
     refine ⟨fun hx=>?_,fun hx=>⟨w,rfl,?_⟩⟩<;>simp (disch:=first|assumption|omega|(simp;done)|(simp;omega)|(simp only [bt,and_true];first|done|omega|(simp;done))) [↓zmk,beq,ybc,ybd,ybe,ag,wk,wk2,wk1,wkM,wkL,am,ybf,hcl,hx]
    |b y =>
     simp only [go_sem,hi,Int.reduceBEq,dZ,eH,fw,fu,zif,cD,cE,Mv.bo]
     refine ⟨fun hx=>?_,fun hx=>?_⟩<;>simp (disch:=first|assumption|omega|(simp;done)|(simp;omega)|(simp only [bt,and_true];first|done|omega|(simp;done))) [↓zmk,beq,ybc,ybd,ybe,ag,wk,wk2,wk1,wkM,wkL,am,ybf,hcl,hx]
  ·obtain ⟨x1,x2,x3,x4,x5⟩:=h
   have d1:((op:Int)==8)=false:=beq_eq_false_iff_ne.2 (by omega)
   have d2:((op:Int)==9)=false:=beq_eq_false_iff_ne.2 (by omega)
   have d3:((op:Int)==5)=false:=beq_eq_false_iff_ne.2 (by omega)
   have d4:((op:Int)==14)=false:=beq_eq_false_iff_ne.2 (by omega)
   have d5:((op:Int)==15)=false:=beq_eq_false_iff_ne.2 (by omega)
   have hv:opV op a b=.b (!a.bo||b.bo):=by simp [opV,h4,h6,h7,h10,h11,h12,h13,x1,x2,x3,x4,x5]
   rw [hv]
   cases a with
   |i z =>
    cases b with
    |i w =>
     simp only [go_sem,d1,d2,d3,d4,d5,dZ,eH,fw,fu,zif,cD,cE,Mv.bo]
     refine ⟨z,rfl,?_⟩
     simp (disch:=first|assumption|omega|(simp;done)|(simp;omega)|(simp only [bt,and_true];first|done|omega|(simp;done))) [↓zmk,beq,ybc,ybd,ybe,ag,wk,wk2,wk1,wkM,wkL,am,ybf,hcl]
    |b y =>
     simp only [go_sem,d1,d2,d3,d4,d5,dZ,eH,fw,fu,zif,cD,cE,Mv.bo]
     refine ⟨z,rfl,?_⟩
     simp (disch:=first|assumption|omega|(simp;done)|(simp;omega)|(simp only [bt,and_true];first|done|omega|(simp;done))) [↓zmk,beq,ybc,ybd,ybe,ag,wk,wk2,wk1,wkM,wkL,am,ybf,hcl]
   |b x =>
    cases b with
    |i w =>
     simp only [go_sem,d1,d2,d3,d4,d5,dZ,eH,fw,fu,zif,cD,cE,Mv.bo]
     refine ⟨fun hx=>?_,fun hx=>⟨w,rfl,?_⟩⟩<;>simp (disch:=first|assumption|omega|(simp;done)|(simp;omega)|(simp only [bt,and_true];first|done|omega|(simp;done))) [↓zmk,beq,ybc,ybd,ybe,ag,wk,wk2,wk1,wkM,wkL,am,ybf,hcl,hx]
    |b y =>
     simp only [go_sem,d1,d2,d3,d4,d5,dZ,eH,fw,fu,zif,cD,cE,Mv.bo]
     refine ⟨fun hx=>?_,fun hx=>?_⟩<;>simp (disch:=first|assumption|omega|(simp;done)|(simp;omega)|(simp only [bt,and_true];first|done|omega|(simp;done))) [↓zmk,beq,ybc,ybd,ybe,ag,wk,wk2,wk1,wkM,wkL,am,ybf,hcl,hx]
end Go.AL
open Go Go.AL Go.Proofs
namespace Go.AL
set_option linter.all false
set_option maxRecDepth 10000
theorem rS:ti Try.prog 95=some ⟨.struct [(0,93,false),(1,93,false)],2,16,.agg [.int .u64 0,.int .u64 0]⟩:=by kernel_rfl
attribute [go_sem] rS
theorem y6 {a b c d:Int}:teq Try.prog 9 95 (.agg [.int .u64 a,.int .u64 b]) (.agg [.int .u64 c,.int .u64 d])=some ((a==c)&&((b==d)&&true)):=by
 have g1:Try.prog.stoodInHeld 95=false:=by kernel_rfl
 simp [rS,teq,teq.go,teq.part,lT,ceq,g1,TD.agg]
theorem zK:Try.prog.eqGuardType Try.prog.depth 95=false:=by kernel_rfl
def mvs (l:List Mv):List AV:=l.map mAV
theorem bN {l:List Mv}:(mvs l).length=l.length:=by simp [mvs]
theorem Bv {l:List Mv} {k:Nat} (h:k<l.length):(mvs l).getD k .junk=mAV (l.getD k (.b false)):=by
 simp [mvs,List.getD_eq_getElem?_getD,h]
theorem uX {l:List Mv} {m:Mv}:mvs l++[mAV m]=mvs (l++[m]):=by simp [mvs]
theorem DB {n:Nat} {m:Mv}:AV.lt n (mAV m):=by cases m<;>simp [mAV,nAV,znm,znn,znq,znr,znb,znc]
theorem mi {m:Mv}:(mAV m).cells=[mAV m]:=by cases m<;>rfl
theorem BB {m:Mv}:(mAV m).one=true:=by cases m<;>rfl
theorem Bc {m:Mv}:aW (mAV m).cells=true:=by cases m<;>rfl
def lD (l:List Mv) (i:Int):Mv:=if i<0 then .b false else l.getD i.toNat (.b false)
def CN:List AV→AHeap→(AV→Prop)→Prop
 |[.int .i64 i,.ptr c 0],H,K=>∃ mk l,H.get c=some (.cells [.slice mk 1 (mvs l)])∧K (mAV (lD l i))
 |_,_,_=>False
theorem DE:EntOk Try.prog 40 (Ent.pure CN):=by
 refine EntOk.pure fun args H K h=>?_
 unfold CN at h
 split at h
 rotate_left
 ·exact h.elim
 rename_i i c
 obtain ⟨mk,l,hg,hK⟩:=h
 refine ⟨_,hK,?_⟩
 clear hK
 refine ACalls.fW aD TblOk.nil Try.func40 [.tmp 3] (Nat.le_refl _) (T:=az []) (h:=fun hcl hlt=>?_)
 clear hlt
 have hcs:=ai (cs:=[.slice mk 1 (mvs l)]) hg
 by_cases h0:i<0
 ·have d1:decide (i<0)=true:=decide_eq_true h0
  have hv:lD l i=.b false:=by unfold lD;rw [if_pos h0]
  simp only [go_sem,hcs,d1,hv,dZ]
  simp (disch:=first|assumption|omega|(simp;done)|(simp;omega)|(simp only [bt,and_true];first|done|omega|(simp;done))) [↓zmk,beq,ybc,ybd,ybe,ag,wk,wk2,wk1,wkM,wkL,am,ybf,hcl]
 ·have d1:decide (i<0)=false:=decide_eq_false h0
  by_cases h1:(l.length:Int)≤i
  ·have d2:decide ((l.length:Int)≤i)=true:=decide_eq_true h1
   have hv:lD l i=.b false:=by
    unfold lD;rw [if_neg h0,List.getD_eq_getElem?_getD,List.getElem?_eq_none (by omega)];rfl
   simp only [go_sem,hcs,d1,hv,dZ,bN,d2]
   simp (disch:=first|assumption|omega|(simp;done)|(simp;omega)|(simp only [bt,and_true];first|done|omega|(simp;done))) [↓zmk,beq,ybc,ybd,ybe,ag,wk,wk2,wk1,wkM,wkL,am,ybf,hcl]
  ·have d2:decide ((l.length:Int)≤i)=false:=decide_eq_false h1
   have hi:i.toNat<l.length:=by omega
   have hv:lD l i=l.getD i.toNat (.b false):=by unfold lD;rw [if_neg h0]
   simp only [go_sem,hcs,d1,hv,bN,d2,Bv hi]
   refine ⟨by omega,by rw [mi];exact Nat.one_pos,?_⟩
   simp only [mi,yau]
   generalize l.getD i.toNat (.b false)=r
   cases r<;>simp (disch:=first|assumption|omega|(simp;done)|(simp;omega)|(simp only [bt,and_true];first|done|omega|(simp;done))) [↓zmk,beq,ybc,ybd,ybe,ag,wk,wk2,wk1,wkM,wkL,am,ybf,hcl,mAV,nAV]
theorem Dp {n:Nat} {m:Mark} {l:List Mv}:AV.lt n (.slice m 1 (mvs l))=∀ id,m=.own id→id<n:=by
 rw [AV.lt]
 refine propext ⟨fun h=>h.1,fun h=>⟨h,fun j hj=>?_⟩⟩
 simp only [mvs,List.getElem_map]
 exact DB
theorem EN {H:AHeap} (hcl:H.Closed) (k:Nat) (l:List Mv):((H.push (.cells [.slice (.own (H.nx+1)) 1 (mvs l)])).push (.buf 1 k)).Closed:=by
 have h1:=ah (i:=H.nx) (cs:=[.slice (.own (H.nx+1)) 1 (mvs l)]) (af (a:=1) (b:=k) (ae (cs:=[]) hcl trivial)) (by
  simp only [znq,znr,and_true,zla]
  rw [Dp]
  intro id hi
  injection hi with hi
  omega)
 simp only [go_sem] at h1
 exact h1
theorem EM {n f c:Nat} (h:c<n):AV.lt n (.func (.func f) [] [.ptr c 0]):=by
 rw [AV.lt]
 refine ⟨fun j hj=>absurd hj (by simp),fun j hj=>?_⟩
 have:j=0:=by simpa using hj
 subst this
 simpa [znj] using h
/-- a tree that Holds may walk: every node's meaning is a number whose sign is bP -/
def okH (e:List (VN × Nat)) (t:List Nd):Prop:=t.length<100000∧∀ i (h:i<t.length),1≤t[i].op∧t[i].op≤16∧t[i].v<340282366920938463463374607431768211456∧(3<t[i].op→isN ((dB e t i).getD t[i].a (.b false)).num∧isN ((dB e t i).getD t[i].b (.b false)).num∧isN (((dB e t i).getD t[i].a (.b false)).num - ((dB e t i).getD t[i].b (.b false)).num))
def sZ (e:List (VN × Nat)) (t:List Nd):Mv:=lD (dB e t t.length) ((t.length:Int) - 1)
def sL:List AV→AHeap→(AV→Prop)→Prop
 |[.slice _ 7 x,.slice _ 4 y],_,K=>∃ t e,(x=nds t∧y=ay e∧okH e t∧Cg e)∧K (.bool (sZ e t).bo)
 |_,_,_=>False
theorem wQ:EntOk Try.prog 21 (Ent.pure sL):=by
 refine EntOk.pure fun args H K h=>?_
 unfold sL at h
 split at h
 rotate_left
 ·exact h.elim
 rename_i m x m2 y
 obtain ⟨t,e,⟨rfl,rfl,⟨ht,hn⟩,hb⟩,hK⟩:=h
 refine ⟨_,hK,?_⟩
 clear hK
 refine ACalls.fW aD (TblOk.cons DE (TblOk.cons tJ (TblOk.cons mN (TblOk.cons uQ (TblOk.cons AJ (TblOk.cons pi (TblOk.cons oc TblOk.nil))))))) Try.func21 [.tmp 4] (Nat.le_refl _) (T:=az [(9,[[],[],[],[2],[],[],[2,3],[0,2,3],[0,2,3]]),(11,[[],[],[],[],[],[],[2,3],[0,2,3],[0,2,3]]),(13,[[],[],[],[1],[],[],[1,3],[0,1,3],[0,1,3]]),(7,[[],[],[],[],[],[],[5],[],[],[],[5,6,9],[2,5,6,9,10],[2,5,6,9,10,11],[0,2,5,6,9,10,11],[0,2,5,6,9,10,11]]),(3,[[1]])]) (h:=fun hcl hlt=>?_)
 have hm:∀ n',H.nx≤n'→AV.lt n' (.slice m 7 (nds t)):=fun n' hn=>AV.lt_mono hn _ (hlt (.slice m 7 (nds t)) (by simp))
 have hm2:∀ n',H.nx≤n'→AV.lt n' (.slice m2 4 (ay e)):=fun n' hn=>AV.lt_mono hn _ (hlt (.slice m2 4 (ay e)) (by simp))
 clear hlt
 have hF:∀ n',H.nx+1≤n'→AV.lt n' (.func (.func 40) [] [.ptr H.nx 0]):=fun n' hn=>EM (by omega)
 have hcH:=fun k l=>EN hcl k l
 simp only [go_sem]
 refine w5 5 0 1 (cs:=[AV.slice .nil 1 []]) rfl (by simp only [go_sem]) rfl ?_
 simp only [bhq,Nat.reduceMod,Nat.reduceDiv,aM,aL,aO,bE,aN,bD,bz,bB,bA,yaq,yar,yao,yap,go_sem,aJ,List.set_cons_zero]
 refine aB (A:=Nat) (fun k=>[(0,.slice m 7 (nds t)),(1,.slice m2 4 (ay e)),(5,.ptr H.nx 0),(6,.func (.func 40) [] [.ptr H.nx 0]),(10,.slice m 7 (nds t)),(11,.int .i64 (t.length:Int)),(12,.int .i64 (k:Int))])
  (fun k=>(H.push (.cells [.slice (.own (H.nx+1)) 1 (mvs (dB e t k))])).push (.buf 1 k)) (fun k=>k≤t.length) (fun k=>t.length - k) 0 (Nat.zero_le _) ?_ fun k hk=>?_
 ·(simp only [bkq,enterW,aI,ltF,ne_eq,Nat.reduceEqDiff,reduceCtorEq,hm,hm2,hF,hcH];try simp (disch:=first|assumption|omega|(simp;done)|(simp;omega)|(simp only [bt,and_true];first|done|omega|(simp;done))) [↓zmk,beq,ybc,ybd,ybe,ag,wk,wk2,wk1,wkM,wkL,am,ybf,byq,biq,au,hcl,hm,hm2,hF,hcH];try (repeat' (first|assumption|omega|exact True.intro|refine And.intro ?_ ?_|refine af ?_|refine aa ?_|refine ae ?_ ?_|refine ah ?_ ?_|refine ak ?_|exact AHeap.Le.refl _|refine AHeap.Le.push ?_ _|refine AHeap.Le.del ?_ ?_|(simp only [bt,and_true,true_and,hm,hm2,hF,hcH];first|done|omega|(simp;done)))))
 simp only [go_sem]
 refine ax (fun hc=>?_) (fun hc=>?_)
 ·have hk1:k<t.length:=by simp at hc;omega
  have e5:IntKind.i64.wrap ((k:Int)+1)=((k+1:Nat):Int):=by rw [wrap_i64]<;>omega
  obtain ⟨o1,o2,hv1,hnum⟩:=hn k hk1
  have hvk:dB e t (k+1)=dB e t k++[im e (dB e t k) t[k]]:=by
   rw [dB,show t.getD k default=t[k] by simp [List.getD_eq_getElem?_getD,hk1]]
  obtain ⟨L,hL⟩:∃ L,dB e t k=L:=⟨_,rfl⟩
  rw [hL] at hvk hnum
  have hLl:L.length=k:=by rw [← hL,iN]
  have hgk:=ek hk1
  have hb1:t[k].v % 2^64<18446744073709551616:=Nat.mod_lt _ (by decide)
  have hz:((((t[k].v/2^64:Nat):Int)*2^64+((t[k].v % 2^64:Nat):Int):Int))=(t[k].v:Int):=by omega
  have hfo0:mvs L++[mAV (im e L t[k])]=mvs (dB e t (k+1)):=by rw [hvk,uX]
  rcases (by omega:t[k].op=1∨t[k].op=2∨t[k].op=3∨3<t[k].op) with c|c|c|c
  ·have d1:((t[k].op:Int)==1)=true:=by rw [c];rfl
   have hw:im e L t[k]=.i t[k].v:=by unfold im;rw [if_pos c]
   have hfo:=hfo0
   rw [hw,eH,nAV] at hfo
   simp only [go_sem,hL,aJ,hgk,d1,Int.toNat_natCast,nV,hz,nAV]
   refine ⟨by omega,by omega,?_⟩
   refine ⟨⟨by rw [bN,hLl],by rw [bN];omega,by rw [bN];omega,fun z hz=>?_⟩,k+1,by omega,by omega,?_⟩
   ·rw [List.mem_singleton.1 hz];rfl
   simp only [hfo,bN,hLl,e5]
   (simp only [bkq,enterW,aI,ltF,ne_eq,Nat.reduceEqDiff,reduceCtorEq,hm,hm2,hF,hcH];try simp (disch:=first|assumption|omega|(simp;done)|(simp;omega)|(simp only [bt,and_true];first|done|omega|(simp;done))) [↓zmk,beq,ybc,ybd,ybe,ag,wk,wk2,wk1,wkM,wkL,am,ybf,byq,biq,au,hcl,hm,hm2,hF,hcH];try (repeat' (first|assumption|omega|exact True.intro|refine And.intro ?_ ?_|refine af ?_|refine aa ?_|refine ae ?_ ?_|refine ah ?_ ?_|refine ak ?_|exact AHeap.Le.refl _|refine AHeap.Le.push ?_ _|refine AHeap.Le.del ?_ ?_|(simp only [bt,and_true,true_and,hm,hm2,hF,hcH];first|done|omega|(simp;done)))))
  ·have d1:((t[k].op:Int)==1)=false:=by rw [c];rfl
   have d2:((t[k].op:Int)==2)=true:=by rw [c];rfl
   have hvq:(((t[k].v/2^64:Nat):Int)==0&&((t[k].v % 2^64:Nat):Int)==1)=decide (t[k].v=1):=by
    rw [Bool.eq_iff_iff];simp only [Bool.and_eq_true,beq_iff_eq,decide_eq_true_eq];omega
   have hw:im e L t[k]=.b (decide (t[k].v=1)):=by unfold im;rw [if_neg (by omega),if_pos c]
   have hfo:=hfo0
   rw [hw,dZ] at hfo
   simp only [go_sem,hL,aJ,hgk,d1,d2,Int.toNat_natCast,m7,y6,zK,Bool.bne_false,Bool.and_true,hvq]
   refine ⟨by omega,?_⟩
   refine ⟨⟨by rw [bN,hLl],by rw [bN];omega,by rw [bN];omega,fun z hz=>?_⟩,k+1,by omega,by omega,?_⟩
   ·rw [List.mem_singleton.1 hz];rfl
   simp only [hfo,bN,hLl,e5]
   (simp only [bkq,enterW,aI,ltF,ne_eq,Nat.reduceEqDiff,reduceCtorEq,hm,hm2,hF,hcH];try simp (disch:=first|assumption|omega|(simp;done)|(simp;omega)|(simp only [bt,and_true];first|done|omega|(simp;done))) [↓zmk,beq,ybc,ybd,ybe,ag,wk,wk2,wk1,wkM,wkL,am,ybf,byq,biq,au,hcl,hm,hm2,hF,hcH];try (repeat' (first|assumption|omega|exact True.intro|refine And.intro ?_ ?_|refine af ?_|refine aa ?_|refine ae ?_ ?_|refine ah ?_ ?_|refine ak ?_|exact AHeap.Le.refl _|refine AHeap.Le.push ?_ _|refine AHeap.Le.del ?_ ?_|(simp only [bt,and_true,true_and,hm,hm2,hF,hcH];first|done|omega|(simp;done)))))
  ·have d1:((t[k].op:Int)==1)=false:=by rw [c];rfl
   have d2:((t[k].op:Int)==2)=false:=by rw [c];rfl
   have d3:((t[k].op:Int)==3)=true:=by rw [c];rfl
   have hw:im e L t[k]=.i (jk e (t[k].name,t[k].attr)):=by unfold im;rw [if_neg (by omega),if_neg (by omega),if_pos c]
   have hfo:=hfo0
   rw [hw,eH,nAV] at hfo
   simp only [go_sem,hL,aJ,hgk,d1,d2,d3,Int.toNat_natCast]
   refine ⟨by omega,t[k],e,⟨rfl,rfl,hb⟩,?_⟩
   simp only [go_sem,nAV]
   refine ⟨⟨by rw [bN,hLl],by rw [bN];omega,by rw [bN];omega,fun z hz=>?_⟩,k+1,by omega,by omega,?_⟩
   ·rw [List.mem_singleton.1 hz];rfl
   simp only [hfo,bN,hLl,e5]
   (simp only [bkq,enterW,aI,ltF,ne_eq,Nat.reduceEqDiff,reduceCtorEq,hm,hm2,hF,hcH];try simp (disch:=first|assumption|omega|(simp;done)|(simp;omega)|(simp only [bt,and_true];first|done|omega|(simp;done))) [↓zmk,beq,ybc,ybd,ybe,ag,wk,wk2,wk1,wkM,wkL,am,ybf,byq,biq,au,hcl,hm,hm2,hF,hcH];try (repeat' (first|assumption|omega|exact True.intro|refine And.intro ?_ ?_|refine af ?_|refine aa ?_|refine ae ?_ ?_|refine ah ?_ ?_|refine ak ?_|exact AHeap.Le.refl _|refine AHeap.Le.push ?_ _|refine AHeap.Le.del ?_ ?_|(simp only [bt,and_true,true_and,hm,hm2,hF,hcH];first|done|omega|(simp;done)))))
  ·have d1:((t[k].op:Int)==1)=false:=beq_eq_false_iff_ne.2 (by omega)
   have d2:((t[k].op:Int)==2)=false:=beq_eq_false_iff_ne.2 (by omega)
   have d3:((t[k].op:Int)==3)=false:=beq_eq_false_iff_ne.2 (by omega)
   have hw:im e L t[k]=opV t[k].op (L.getD t[k].a (.b false)) (L.getD t[k].b (.b false)):=by unfold im;rw [if_neg (by omega),if_neg (by omega),if_neg (by omega)]
   have hga:lD L (t[k].a:Int)=L.getD t[k].a (.b false):=by unfold lD;rw [if_neg (by omega),Int.toNat_natCast]
   have hgb:lD L (t[k].b:Int)=L.getD t[k].b (.b false):=by unfold lD;rw [if_neg (by omega),Int.toNat_natCast]
   obtain ⟨n1,n2,n3⟩:=hnum c
   have hfo:=hfo0
   rw [hw] at hfo
   simp only [go_sem,hL,aJ,hgk,d1,d2,d3,Int.toNat_natCast]
   refine ⟨by omega,?_⟩
   refine ⟨_,L,by simp only [go_sem];rfl,?_⟩
   simp only [go_sem,hga,hgb]
   refine ⟨_,L,by simp only [go_sem];rfl,?_⟩
   simp only [go_sem,hga,hgb]
   refine ⟨t[k].op,_,_,⟨rfl,c,by omega,rfl,rfl,n1,n2,n3⟩,?_⟩
   simp only [go_sem,hga,hgb,mi,BB]
   refine ⟨⟨by rw [bN,hLl],by rw [bN];omega,by rw [bN];omega,fun z hz=>?_⟩,k+1,by omega,by omega,?_⟩
   ·rw [List.mem_singleton.1 hz];exact Bc
   simp only [hfo,bN,hLl,e5]
   (simp only [bkq,enterW,aI,ltF,ne_eq,Nat.reduceEqDiff,reduceCtorEq,hm,hm2,hF,hcH];try simp (disch:=first|assumption|omega|(simp;done)|(simp;omega)|(simp only [bt,and_true];first|done|omega|(simp;done))) [↓zmk,beq,ybc,ybd,ybe,ag,wk,wk2,wk1,wkM,wkL,am,ybf,byq,biq,au,hcl,hm,hm2,hF,hcH];try (repeat' (first|assumption|omega|exact True.intro|refine And.intro ?_ ?_|refine af ?_|refine aa ?_|refine ae ?_ ?_|refine ah ?_ ?_|refine ak ?_|exact AHeap.Le.refl _|refine AHeap.Le.push ?_ _|refine AHeap.Le.del ?_ ?_|(simp only [bt,and_true,true_and,hm,hm2,hF,hcH];first|done|omega|(simp;done)))))
 ·have hk1:k=t.length:=by simp at hc;omega
  subst hk1
  have e6:IntKind.i64.wrap ((t.length:Int) - 1)=(t.length:Int) - 1:=by rw [wrap_i64]<;>omega
  simp only [go_sem,aJ,e6]
  refine ⟨_,dB e t t.length,by simp only [go_sem];rfl,?_⟩
  obtain ⟨R,hR⟩:∃ R,lD (dB e t t.length) ((t.length:Int) - 1)=R:=⟨_,rfl⟩
  rw [show sZ e t=R from hR,hR]
  cases R with
  |i z =>
   simp only [go_sem,dZ,eH,fw,fu,zif,cD,cE,Mv.bo]
   refine ⟨z,rfl,?_⟩
   simp (disch:=first|assumption|omega|(simp;done)|(simp;omega)|(simp only [bt,and_true];first|done|omega|(simp;done))) [↓zmk,beq,ybc,ybd,ybe,ag,wk,wk2,wk1,wkM,wkL,am,ybf,hcl,hcH]
  |b x =>
   simp only [go_sem,dZ,eH,fw,fu,zif,cD,cE,Mv.bo]
   simp (disch:=first|assumption|omega|(simp;done)|(simp;omega)|(simp only [bt,and_true];first|done|omega|(simp;done))) [↓zmk,beq,ybc,ybd,ybe,ag,wk,wk2,wk1,wkM,wkL,am,ybf,hcl,hcH]
end Go.AL
