/- Contracts and plain laws, a part of the proof; no condition of its own. -/
import Derived.Test.YtcnkffeikmkeiaaGreatS08i
import Derived.Test.YtcnkffeikmkeiaaGreatLEval
set_option maxHeartbeats 32000000
open List renaming length_cons → yaz, length_nil → yba, take_of_length_le → ybc, drop_append → ybd, take_append → ybe, drop_eq_nil_of_le → ybf, getD_cons_zero → yau, take_succ_cons → yaq, take_zero → yar, drop_succ_cons → yao, drop_zero → yap
open Go Go.AL Go.Proofs
namespace Go.AL
set_option linter.all false
set_option maxRecDepth 10000
theorem km:ti Tryz.prog 103=some ⟨.struct [(0,100,false)],3,24,.agg [.int .u64 0,.int .u64 0,.int .u64 0]⟩:=by kernel_rfl
theorem nO:ti Tryz.prog 96=some ⟨.bool,1,1,.bool false⟩:=by kernel_rfl
theorem Az:ti Tryz.prog 95=some ⟨.iface 1,1,16,.nili⟩:=by kernel_rfl
theorem yT:ti Tryz.prog 93=some ⟨.slice 95,1,24,.slice .nil 1 []⟩:=by kernel_rfl
theorem zS:ti Tryz.prog 70=some ⟨.struct [(0,9,false),(1,9,false),(2,67,false)],4,48,.agg [.str [],.str [],.int .u64 0,.int .u64 0]⟩:=by kernel_rfl
theorem zi:ti Tryz.prog 26=some ⟨.slice 70,1,24,.slice .nil 1 []⟩:=by kernel_rfl
attribute [go_sem] km nO Az yT zS zi
def mAV:Mv→AV
 |.i z=>.iface 103 (nAV z)
 |.b x=>.iface 96 (.bool x)
def mA (x:VN × Nat):AV:=.agg [.str x.1.1,.str x.1.2,.int .u64 ((x.2/2^64:Nat):Int),.int .u64 ((x.2 % 2^64:Nat):Int)]
def bj (l:List (VN × Nat)):List AV:=l.map mA
theorem aK {l:List (VN × Nat)}:(bj l).length=l.length:=by simp [bj]
theorem nn {l:List (VN × Nat)} {k:Nat} (h:k<l.length):(bj l).getD k .junk=.agg [.str l[k].1.1,.str l[k].1.2,.int .u64 ((l[k].2/2^64:Nat):Int),.int .u64 ((l[k].2 % 2^64:Nat):Int)]:=by
 simp [bj,mA,List.getD_eq_getElem?_getD,h]
theorem aU {n:Nat} {m:Mark} {l:List (VN × Nat)}:AV.lt n (.slice m 4 (bj l))=∀ id,m=.own id→id<n:=by
 rw [AV.lt]
 refine propext ⟨fun h=>h.1,fun h=>⟨h,fun j hj=>?_⟩⟩
 simp only [bj,List.getElem_map,mA]
 simp [znn,znq,znr,znd,znb]
def cB:List AV→AHeap→(AV→Prop)→Prop
 |[x],_,K=>∃ z,x=nAV z∧K (.bool false)
 |_,_,_=>False
theorem py:EntOk Tryz.prog 184 (Ent.pure cB):=by
 refine EntOk.pure fun args H K h=>?_
 unfold cB at h
 split at h
 rotate_left
 ·exact h.elim
 obtain ⟨z,rfl,hK⟩:=h
 refine ⟨_,hK,?_⟩
 clear hK
 refine ACalls.fW aA TblOk.nil Tryz.func184 [.tmp 2] (Nat.le_refl _) (T:=au []) (h:=fun hcl hlt=>?_)
 clear hlt
 simp only [go_sem,nAV]
 simp (disch:=first|assumption|omega|(simp;done)|(simp;omega)|(simp only [bt,and_true];first|done|omega|(simp;done))) [↓zmk,beq,ybc,ybd,ybe,ae,wk,wk2,wk1,wkM,wkL,al,ybf,hcl]
def cC:List AV→AHeap→(AV→Prop)→Prop
 |[.bool x],_,K=>K (.bool x)
 |_,_,_=>False
theorem oL:EntOk Tryz.prog 116 (Ent.pure cC):=by
 refine EntOk.pure fun args H K h=>?_
 unfold cC at h
 split at h
 rotate_left
 ·exact h.elim
 refine ⟨_,h,?_⟩
 clear h
 refine ACalls.fW aA TblOk.nil Tryz.func116 [.tmp 2] (Nat.le_refl _) (T:=au []) (h:=fun hcl hlt=>?_)
 clear hlt
 simp only [go_sem]
 simp (disch:=first|assumption|omega|(simp;done)|(simp;omega)|(simp only [bt,and_true];first|done|omega|(simp;done))) [↓zmk,beq,ybc,ybd,ybe,ae,wk,wk2,wk1,wkM,wkL,al,ybf,hcl]
theorem tI:nAV 0=.agg [.int .u64 0,.int .u64 0,.int .u64 0]:=by rfl
theorem nN:(96=103)=False:=eq_false (by decide)
def oE:List AV→AHeap→(AV→Prop)→Prop
 |[x],_,K=>∃ m,x=mAV m∧K (nAV m.num)
 |_,_,_=>False
theorem ny:EntOk Tryz.prog 70 (Ent.pure oE):=by
 refine EntOk.pure fun args H K h=>?_
 unfold oE at h
 split at h
 rotate_left
 ·exact h.elim
 obtain ⟨m,rfl,hK⟩:=h
 refine ⟨_,hK,?_⟩
 clear hK
 cases m with
 |i z =>
  refine ACalls.fW aA TblOk.nil Tryz.func70 [.cell 2 100] (Nat.le_refl _) (T:=au []) (h:=fun hcl hlt=>?_)
  clear hlt
  simp only [go_sem,mAV,Mv.num,eo,km,if_true,nAV]
  simp (disch:=first|assumption|omega|(simp;done)|(simp;omega)|(simp only [bt,and_true];first|done|omega|(simp;done))) [↓zmk,beq,ybc,ybd,ybe,ae,wk,wk2,wk1,wkM,wkL,al,ybf,hcl]
 |b x =>
  refine ACalls.fW aA TblOk.nil Tryz.func70 [.cell 2 100] (Nat.le_refl _) (T:=au []) (h:=fun hcl hlt=>?_)
  clear hlt
  simp only [go_sem,mAV,Mv.num,tI,eo,km,nN]
  simp (disch:=first|assumption|omega|(simp;done)|(simp;omega)|(simp only [bt,and_true];first|done|omega|(simp;done))) [↓zmk,beq,ybc,ybd,ybe,ae,wk,wk2,wk1,wkM,wkL,al,ybf,hcl]
def uh (e:List (VN × Nat)):Prop:=e.length<4611686018427387904∧∀ x∈e,x.2<340282366920938463463374607431768211456
def qH:List AV→AHeap→(AV→Prop)→Prop
 |[x,.slice _ 4 y],_,K=>∃ n e,(x=gp n∧y=bj e∧uh e)∧K (nAV (gC e (n.name,n.attr)))
 |_,_,_=>False
theorem fM {y x:VN} {v:Nat} {l:List (VN × Nat)}:gC ((y,v)::l) x=if y=x then (v:Int) else gC l x:=rfl
theorem uS:EntOk Tryz.prog 29 (Ent.pure qH):=by
 refine EntOk.pure fun args H K h=>?_
 unfold qH at h
 split at h
 rotate_left
 ·exact h.elim
 rename_i x m y
 obtain ⟨n,e,⟨rfl,rfl,hl,hv⟩,hK⟩:=h
 obtain ⟨Q,hQ⟩:∃ Q,gC e (n.name,n.attr)=Q:=⟨_,rfl⟩
 rw [hQ] at hK
 refine ⟨_,hK,?_⟩
 clear hK
 refine ACalls.fW aA (TblOk.cons uD (TblOk.cons Av TblOk.nil)) Tryz.func29 [.cell 4 100] (Nat.le_refl _) (T:=au []) (h:=fun hcl hlt=>?_)
 have hm:∀ n',H.nx≤n'→AV.lt n' (.slice m 4 (bj e)):=fun n' hn=>AV.lt_mono hn _ (hlt (.slice m 4 (bj e)) (by simp))
 clear hlt
 simp only [go_sem,gp,aK]
 refine av (A:=Nat) (fun j=>[(2,.ptr H.nx 0),(4,.ptr (H.nx+1) 0),(7,.slice m 4 (bj e)),(8,.int .i64 (e.length:Int)),(9,.int .i64 (j:Int))])
  (fun _=>(H.push (.cells [.int .i64 (n.op:Int),.int .i64 (n.a:Int),.int .i64 (n.b:Int),.str n.name,.str n.attr,.int .u64 ((n.v/2^64:Nat):Int),.int .u64 ((n.v % 2^64:Nat):Int)])).push (.cells [.int .u64 0,.int .u64 0,.int .u64 0])) (fun j=>j≤e.length∧gC (e.drop j) (n.name,n.attr)=Q) (fun j=>e.length - j) 0 ⟨Nat.zero_le _,hQ⟩ ?_ fun j hj=>?_
 ·(simp only [bkq,enterW,aS,ltF,ne_eq,Nat.reduceEqDiff,reduceCtorEq,hm];try simp (disch:=first|assumption|omega|(simp;done)|(simp;omega)|(simp only [bt,and_true];first|done|omega|(simp;done))) [↓zmk,beq,ybc,ybd,ybe,ae,wk,wk2,wk1,wkM,wkL,al,ybf,byq,biq,af,hcl,hm];try (repeat' (first|assumption|omega|exact True.intro|refine And.intro ?_ ?_|refine ag ?_|refine aa ?_|refine ac ?_ ?_|refine ah ?_ ?_|refine ai ?_|exact AHeap.Le.refl _|refine AHeap.Le.push ?_ _|refine AHeap.Le.del ?_ ?_|(simp only [bt,and_true,true_and,hm];first|done|omega|(simp;done)))))
 obtain ⟨hj,hq⟩:=hj
 simp only [go_sem]
 refine aj (fun hc=>?_) (fun hc=>?_)
 ·have hj1:j<e.length:=by simp at hc;omega
  have e5:IntKind.i64.wrap ((j:Int)+1)=((j+1:Nat):Int):=by rw [wrap_i64]<;>omega
  have hne:(H.nx=H.nx+2)=False:=eq_false (by omega)
  have hv1:e[j].2<340282366920938463463374607431768211456:=hv e[j] (List.getElem_mem hj1)
  rw [List.drop_eq_getElem_cons hj1] at hq
  have hz:((((e[j].2/2^64:Nat):Int)*2^64+((e[j].2 % 2^64:Nat):Int):Int))=(e[j].2:Int):=by omega
  simp only [go_sem,aK,nn hj1,Int.toNat_natCast,hne,e5]
  refine ⟨by omega,fun h1=>?_,fun h1=>?_⟩
  ·cases h2:(e[j].1.2==n.attr)
   ·have hx:¬ (e[j].1=(n.name,n.attr)):=fun h=>by rw [h] at h2;simp at h2
    rw [show e[j]=(e[j].1,e[j].2) from rfl,fM,if_neg hx] at hq
    simp only [go_sem,h2]
    refine ⟨j+1,⟨by omega,hq⟩,by omega,?_⟩
    (simp only [bkq,enterW,aS,ltF,ne_eq,Nat.reduceEqDiff,reduceCtorEq,hm];try simp (disch:=first|assumption|omega|(simp;done)|(simp;omega)|(simp only [bt,and_true];first|done|omega|(simp;done))) [↓zmk,beq,ybc,ybd,ybe,ae,wk,wk2,wk1,wkM,wkL,al,ybf,byq,biq,af,hcl,hm];try (repeat' (first|assumption|omega|exact True.intro|refine And.intro ?_ ?_|refine ag ?_|refine aa ?_|refine ac ?_ ?_|refine ah ?_ ?_|refine ai ?_|exact AHeap.Le.refl _|refine AHeap.Le.push ?_ _|refine AHeap.Le.del ?_ ?_|(simp only [bt,and_true,true_and,hm];first|done|omega|(simp;done)))))
   ·have hx:e[j].1=(n.name,n.attr):=Prod.ext (eq_of_beq h1) (eq_of_beq h2)
    rw [show e[j]=(e[j].1,e[j].2) from rfl,fM,if_pos hx] at hq
    subst hq
    simp only [go_sem,h2,nK,hz,nAV]
    refine ⟨by omega,?_⟩
    simp (disch:=first|assumption|omega|(simp;done)|(simp;omega)|(simp only [bt,and_true];first|done|omega|(simp;done))) [↓zmk,beq,ybc,ybd,ybe,ae,wk,wk2,wk1,wkM,wkL,al,ybf,hcl]
  ·have hx:¬ (e[j].1=(n.name,n.attr)):=fun h=>by rw [h] at h1;simp at h1
   rw [show e[j]=(e[j].1,e[j].2) from rfl,fM,if_neg hx] at hq
   refine ⟨j+1,⟨by omega,hq⟩,by omega,?_⟩
   (simp only [bkq,enterW,aS,ltF,ne_eq,Nat.reduceEqDiff,reduceCtorEq,hm];try simp (disch:=first|assumption|omega|(simp;done)|(simp;omega)|(simp only [bt,and_true];first|done|omega|(simp;done))) [↓zmk,beq,ybc,ybd,ybe,ae,wk,wk2,wk1,wkM,wkL,al,ybf,byq,biq,af,hcl,hm];try (repeat' (first|assumption|omega|exact True.intro|refine And.intro ?_ ?_|refine ag ?_|refine aa ?_|refine ac ?_ ?_|refine ah ?_ ?_|refine ai ?_|exact AHeap.Le.refl _|refine AHeap.Le.push ?_ _|refine AHeap.Le.del ?_ ?_|(simp only [bt,and_true,true_and,hm];first|done|omega|(simp;done)))))
 ·have hj1:j=e.length:=by simp at hc;omega
  subst hj1
  rw [List.drop_length] at hq
  have hq':0=Q:=hq
  subst hq'
  simp only [go_sem,wN,tI]
  refine ⟨by omega,?_⟩
  simp (disch:=first|assumption|omega|(simp;done)|(simp;omega)|(simp only [bt,and_true];first|done|omega|(simp;done))) [↓zmk,beq,ybc,ybd,ybe,ae,wk,wk2,wk1,wkM,wkL,al,ybf,hcl]
end Go.AL
open Go Go.AL Go.Proofs
namespace Go.AL
set_option linter.all false
set_option maxRecDepth 10000
theorem lD {a b:Int}:decide (fS a b<0)=decide (a<b):=by unfold fS;split<;>(try split)<;>simp<;>omega
theorem l7 {a b:Int}:decide (fS a b≤0)=decide (a≤b):=by unfold fS;split<;>(try split)<;>simp<;>omega
theorem l3 {a b:Int}:decide (0<fS a b)=decide (b<a):=by unfold fS;split<;>(try split)<;>simp<;>omega
theorem me {a b:Int}:decide (0≤fS a b)=decide (b≤a):=by unfold fS;split<;>(try split)<;>simp<;>omega
def k9 (op:Nat) (a b:Int):Option Mv :=
 if op=4 then some (.i (-a)) else if op=6 then some (.i (a+b)) else if op=7 then some (.i (a - b))
 else if op=10 then some (.b (decide (a<b))) else if op=11 then some (.b (decide (a≤b))) else if op=12 then some (.b (decide (b<a))) else if op=13 then some (.b (decide (b≤a))) else none
def oV:Option Mv→AV
 |some m=>.tup [mAV m,.bool true]
 |none=>.tup [.nili,.bool false]
def vz:List AV→AHeap→(AV→Prop)→Prop
 |[.int .i64 z,x,y],_,K=>∃ op a b,(z=((op:Nat):Int)∧op<100∧x=nAV a∧y=nAV b∧isN a∧isN b∧isN (a - b))∧K (oV (k9 op a b))
 |_,_,_=>False
theorem Ct:EntOk Tryz.prog 69 (Ent.pure vz):=by
 refine EntOk.pure fun args H K h=>?_
 unfold vz at h
 split at h
 rotate_left
 ·exact h.elim
 rename_i z x y
 obtain ⟨op,a,b,⟨rfl,ho,rfl,rfl,ha,hb,hc⟩,hK⟩:=h
 refine ⟨_,hK,?_⟩
 clear hK
 refine ACalls.fW aA (TblOk.cons xm (TblOk.cons si (TblOk.cons w6 (TblOk.cons tV TblOk.nil)))) Tryz.func69 [.tmp 6,.tmp 7] (Nat.le_refl _) (T:=au []) (h:=fun hcl hlt=>?_)
 clear hlt
 rcases (by omega:op=4∨op=6∨op=7∨op=10∨op=11∨op=12∨op=13∨(op≠4∧op≠6∧op≠7∧op≠10∧op≠11∧op≠12∧op≠13)) with h|h|h|h|h|h|h|h
 ·have hi:(op:Int)=4:=by omega
  have hs:k9 op a b=some (.i (-a)):=by subst h;rfl
  simp only [go_sem,nAV,hs,oV,mAV,vV,hi,Int.reduceBEq]
  refine ⟨a,rfl,?_⟩
  simp (disch:=first|assumption|omega|(simp;done)|(simp;omega)|(simp only [bt,and_true];first|done|omega|(simp;done))) [↓zmk,beq,ybc,ybd,ybe,ae,wk,wk2,wk1,wkM,wkL,al,ybf,hcl]
 ·have hi:(op:Int)=6:=by omega
  have hs:k9 op a b=some (.i (a+b)):=by subst h;rfl
  simp only [go_sem,nAV,hs,oV,mAV,rR,hi,Int.reduceBEq]
  refine ⟨a,b,⟨rfl,rfl⟩,?_⟩
  simp (disch:=first|assumption|omega|(simp;done)|(simp;omega)|(simp only [bt,and_true];first|done|omega|(simp;done))) [↓zmk,beq,ybc,ybd,ybe,ae,wk,wk2,wk1,wkM,wkL,al,ybf,hcl]
 ·have hi:(op:Int)=7:=by omega
  have hs:k9 op a b=some (.i (a - b)):=by subst h;rfl
  simp only [go_sem,nAV,hs,oV,mAV,rE,hi,Int.reduceBEq]
  refine ⟨a,b,⟨rfl,rfl⟩,?_⟩
  simp (disch:=first|assumption|omega|(simp;done)|(simp;omega)|(simp only [bt,and_true];first|done|omega|(simp;done))) [↓zmk,beq,ybc,ybd,ybe,ae,wk,wk2,wk1,wkM,wkL,al,ybf,hcl]
 ·have hi:(op:Int)=10:=by omega
  have hs:k9 op a b=some (.b (decide (a<b))):=by subst h;rfl
  simp only [go_sem,nAV,hs,oV,mAV,fF,hi,Int.reduceBEq]
  refine ⟨a,b,⟨rfl,rfl,ha,hb,hc⟩,?_⟩
  simp only [go_sem,nAV,lD,l7,l3,me]
  simp (disch:=first|assumption|omega|(simp;done)|(simp;omega)|(simp only [bt,and_true];first|done|omega|(simp;done))) [↓zmk,beq,ybc,ybd,ybe,ae,wk,wk2,wk1,wkM,wkL,al,ybf,hcl]
 ·have hi:(op:Int)=11:=by omega
  have hs:k9 op a b=some (.b (decide (a≤b))):=by subst h;rfl
  simp only [go_sem,nAV,hs,oV,mAV,fF,hi,Int.reduceBEq]
  refine ⟨a,b,⟨rfl,rfl,ha,hb,hc⟩,?_⟩
  simp only [go_sem,nAV,lD,l7,l3,me]
  simp (disch:=first|assumption|omega|(simp;done)|(simp;omega)|(simp only [bt,and_true];first|done|omega|(simp;done))) [↓zmk,beq,ybc,ybd,ybe,ae,wk,wk2,wk1,wkM,wkL,al,ybf,hcl]
 ·have hi:(op:Int)=12:=by omega
  have hs:k9 op a b=some (.b (decide (b<a))):=by subst h;rfl
  simp only [go_sem,nAV,hs,oV,mAV,fF,hi,Int.reduceBEq]
  refine ⟨a,b,⟨rfl,rfl,ha,hb,hc⟩,?_⟩
  simp only [go_sem,nAV,lD,l7,l3,me]
  simp (disch:=first|assumption|omega|(simp;done)|(simp;omega)|(simp only [bt,and_true];first|done|omega|(simp;done))) [↓zmk,beq,ybc,ybd,ybe,ae,wk,wk2,wk1,wkM,wkL,al,ybf,hcl]
 ·have hi:(op:Int)=13:=by omega
  have hs:k9 op a b=some (.b (decide (b≤a))):=by subst h;rfl
  simp only [go_sem,nAV,hs,oV,mAV,fF,hi,Int.reduceBEq]
  refine ⟨a,b,⟨rfl,rfl,ha,hb,hc⟩,?_⟩
  simp only [go_sem,nAV,lD,l7,l3,me]
  simp (disch:=first|assumption|omega|(simp;done)|(simp;omega)|(simp only [bt,and_true];first|done|omega|(simp;done))) [↓zmk,beq,ybc,ybd,ybe,ae,wk,wk2,wk1,wkM,wkL,al,ybf,hcl]
 ·obtain ⟨h1,h2,h3,h4,h5,h6,h7⟩:=h
  have d1:((op:Int)==4)=false:=beq_eq_false_iff_ne.2 (by omega)
  have d2:((op:Int)==6)=false:=beq_eq_false_iff_ne.2 (by omega)
  have d3:((op:Int)==7)=false:=beq_eq_false_iff_ne.2 (by omega)
  have d4:((op:Int)==10)=false:=beq_eq_false_iff_ne.2 (by omega)
  have d5:((op:Int)==11)=false:=beq_eq_false_iff_ne.2 (by omega)
  have d6:((op:Int)==12)=false:=beq_eq_false_iff_ne.2 (by omega)
  have d7:((op:Int)==13)=false:=beq_eq_false_iff_ne.2 (by omega)
  have hs:k9 op a b=none:=by simp [k9,h1,h2,h3,h4,h5,h6,h7]
  simp only [go_sem,nAV,hs,oV,d1,d2,d3,d4,d5,d6,d7]
  simp (disch:=first|assumption|omega|(simp;done)|(simp;omega)|(simp only [bt,and_true];first|done|omega|(simp;done))) [↓zmk,beq,ybc,ybd,ybe,ae,wk,wk2,wk1,wkM,wkL,al,ybf,hcl]
theorem eJ {z:Int}:mAV (.i z)=.iface 103 (nAV z):=rfl
theorem dX {x:Bool}:mAV (.b x)=.iface 96 (.bool x):=rfl
def tz:List AV→AHeap→(AV→Prop)→Prop
 |[x,y],_,K=>∃ a b,(x=mAV a∧y=mAV b∧isN a.num∧isN b.num)∧K (.bool (mEq a b))
 |_,_,_=>False
theorem EE : mth Tryz.prog 103 "matchguard/eval.holds" = some 184 := by kernel_rfl
theorem Fb : mth Tryz.prog 96 "matchguard/eval.holds" = some 116 := by kernel_rfl
theorem fy {v : AV} : zj Tryz.prog "matchguard/eval.holds" (.iface 103 v) = .func (.func 184) [] [] := pD EE
theorem fA {v : AV} : zj Tryz.prog "matchguard/eval.holds" (.iface 96 v) = .func (.func 116) [] [] := pD Fb
theorem xN:EntOk Tryz.prog 71 (Ent.pure tz):=by
 refine EntOk.pure fun args H K h=>?_
 unfold tz at h
 split at h
 rotate_left
 ·exact h.elim
 rename_i x y
 obtain ⟨a,b,⟨rfl,rfl,ha,hb⟩,hK⟩:=h
 refine ⟨_,hK,?_⟩
 clear hK
 refine ACalls.fW aA (TblOk.cons ny (TblOk.cons oL (TblOk.cons py TblOk.nil))) Tryz.func71 [.tmp 4] (Nat.le_refl _) (T:=au []) (h:=fun hcl hlt=>?_)
 clear hlt
 cases a with
 |i z =>
  have hq:((w0 z==w0 b.num)&&((w1 z==w1 b.num)&&(w2 z==w2 b.num)))=decide (z=b.num):=E5 ha hb
  have hz:mEq (.i z) b=decide (z=b.num):=rfl
  simp only [go_sem,eJ,eo,km,nO,nN,if_true,nAV,hz]
  refine ⟨b,rfl,?_⟩
  simp only [go_sem,nAV,CQ,C7,hq,Bool.bne_false]
  simp (disch:=first|assumption|omega|(simp;done)|(simp;omega)|(simp only [bt,and_true];first|done|omega|(simp;done))) [↓zmk,beq,ybc,ybd,ybe,ae,wk,wk2,wk1,wkM,wkL,al,ybf,hcl]
 |b x =>
  cases b with
  |i z =>
   simp only [go_sem,eJ,dX,eo,km,nO,nN,if_true,nAV,mEq,Mv.bo,fy,fA,zif,cC,cB,Bool.bne_false]
   refine ⟨z,rfl,?_⟩
   simp (disch:=first|assumption|omega|(simp;done)|(simp;omega)|(simp only [bt,and_true];first|done|omega|(simp;done))) [↓zmk,beq,ybc,ybd,ybe,ae,wk,wk2,wk1,wkM,wkL,al,ybf,hcl]
  |b y =>
   simp only [go_sem,eJ,dX,eo,km,nO,nN,if_true,nAV,mEq,Mv.bo,fy,fA,zif,cC,cB,Bool.bne_false]
   simp (disch:=first|assumption|omega|(simp;done)|(simp;omega)|(simp only [bt,and_true];first|done|omega|(simp;done))) [↓zmk,beq,ybc,ybd,ybe,ae,wk,wk2,wk1,wkM,wkL,al,ybf,hcl]
/-- what the method answers -/
theorem B9 {op:Nat} {a b v:Mv} (h:k9 op a.num b.num=some v):opV op a b=v:=by
 unfold k9 at h;unfold opV
 repeat' split at h
 all_goals first|(cases h;simp_all;done)|(cases h)
def w9:List AV→AHeap→(AV→Prop)→Prop
 |[.int .i64 z,x,y],_,K=>∃ op a b,(z=((op:Nat):Int)∧3<op∧op<100∧x=mAV a∧y=mAV b∧isN a.num∧isN b.num∧isN (a.num - b.num))∧K (mAV (opV op a b))
 |_,_,_=>False
theorem A8 {op:Nat} {a b:Int} (h:k9 op a b=none):op≠4∧op≠6∧op≠7∧op≠10∧op≠11∧op≠12∧op≠13:=by
 unfold k9 at h
 repeat' split at h
 all_goals first|(cases h;done)|omega
theorem Aw:EntOk Tryz.prog 30 (Ent.pure w9):=by
 refine EntOk.pure fun args H K h=>?_
 unfold w9 at h
 split at h
 rotate_left
 ·exact h.elim
 rename_i z x y
 obtain ⟨op,a,b,⟨rfl,h3,ho,rfl,rfl,ha,hb,hc⟩,hK⟩:=h
 refine ⟨_,hK,?_⟩
 clear hK
 refine ACalls.fW aA (TblOk.cons ny (TblOk.cons Ct (TblOk.cons xN (TblOk.cons oL (TblOk.cons py TblOk.nil))))) Tryz.func30 [.tmp 6] (Nat.le_refl _) (T:=au []) (h:=fun hcl hlt=>?_)
 clear hlt
 simp only [go_sem]
 refine ⟨a,rfl,?_⟩
 simp only [go_sem]
 refine ⟨b,rfl,?_⟩
 simp only [go_sem,vz]
 refine ⟨op,a.num,b.num,⟨rfl,ho,rfl,rfl,ha,hb,hc⟩,?_⟩
 cases hs:k9 op a.num b.num with
 |some v =>
  have hv:=B9 hs
  simp only [go_sem,oV,hv]
  cases v<;>simp (disch:=first|assumption|omega|(simp;done)|(simp;omega)|(simp only [bt,and_true];first|done|omega|(simp;done))) [↓zmk,beq,ybc,ybd,ybe,ae,wk,wk2,wk1,wkM,wkL,al,ybf,hcl,mAV,nAV]
 |none =>
  obtain ⟨h4,h6,h7,h10,h11,h12,h13⟩:=A8 hs
  simp only [go_sem,oV]
  rcases (by omega:op=8∨op=9∨op=5∨op=14∨op=15∨(op≠8∧op≠9∧op≠5∧op≠14∧op≠15)) with h|h|h|h|h|h
  ·have hi:(op:Int)=8:=by omega
   have hv:opV op a b=.b (mEq a b):=by subst h;rfl
   simp only [go_sem,hi,Int.reduceBEq,hv,dX]
   refine ⟨a,b,⟨rfl,rfl,ha,hb⟩,?_⟩
   simp only [go_sem]
   simp (disch:=first|assumption|omega|(simp;done)|(simp;omega)|(simp only [bt,and_true];first|done|omega|(simp;done))) [↓zmk,beq,ybc,ybd,ybe,ae,wk,wk2,wk1,wkM,wkL,al,ybf,hcl]
  ·have hi:(op:Int)=9:=by omega
   have hv:opV op a b=.b (!mEq a b):=by subst h;rfl
   simp only [go_sem,hi,Int.reduceBEq,hv,dX]
   refine ⟨a,b,⟨rfl,rfl,ha,hb⟩,?_⟩
   simp only [go_sem]
   simp (disch:=first|assumption|omega|(simp;done)|(simp;omega)|(simp only [bt,and_true];first|done|omega|(simp;done))) [↓zmk,beq,ybc,ybd,ybe,ae,wk,wk2,wk1,wkM,wkL,al,ybf,hcl]
  ·have hi:(op:Int)=5:=by omega
   have hv:opV op a b=.b (!a.bo):=by subst h;rfl
   rw [hv]
   cases a with
   |i z =>
    simp only [go_sem,hi,Int.reduceBEq,dX,eJ,fy,fA,zif,cC,cB,Mv.bo]
    refine ⟨z,rfl,?_⟩
    simp (disch:=first|assumption|omega|(simp;done)|(simp;omega)|(simp only [bt,and_true];first|done|omega|(simp;done))) [↓zmk,beq,ybc,ybd,ybe,ae,wk,wk2,wk1,wkM,wkL,al,ybf,hcl]
   |b x =>
    simp only [go_sem,hi,Int.reduceBEq,dX,eJ,fy,fA,zif,cC,cB,Mv.bo]
    simp (disch:=first|assumption|omega|(simp;done)|(simp;omega)|(simp only [bt,and_true];first|done|omega|(simp;done))) [↓zmk,beq,ybc,ybd,ybe,ae,wk,wk2,wk1,wkM,wkL,al,ybf,hcl]
  ·have hi:(op:Int)=14:=by omega
   have hv:opV op a b=.b (a.bo&&b.bo):=by subst h;rfl
   rw [hv]
   cases a with
   |i z =>
    cases b with
    |i w =>
     simp only [go_sem,hi,Int.reduceBEq,dX,eJ,fy,fA,zif,cC,cB,Mv.bo]
     refine ⟨z,rfl,?_⟩
     simp (disch:=first|assumption|omega|(simp;done)|(simp;omega)|(simp only [bt,and_true];first|done|omega|(simp;done))) [↓zmk,beq,ybc,ybd,ybe,ae,wk,wk2,wk1,wkM,wkL,al,ybf,hcl]
    |b y =>
     simp only [go_sem,hi,Int.reduceBEq,dX,eJ,fy,fA,zif,cC,cB,Mv.bo]
     refine ⟨z,rfl,?_⟩
     simp (disch:=first|assumption|omega|(simp;done)|(simp;omega)|(simp only [bt,and_true];first|done|omega|(simp;done))) [↓zmk,beq,ybc,ybd,ybe,ae,wk,wk2,wk1,wkM,wkL,al,ybf,hcl]
   |b x =>
    cases b with
    |i w =>
     simp only [go_sem,hi,Int.reduceBEq,dX,eJ,fy,fA,zif,cC,cB,Mv.bo]
     refine ⟨fun hx=>⟨w,rfl,?_⟩,fun hx=>?_⟩<;>simp (disch:=first|assumption|omega|(simp;done)|(simp;omega)|(simp only [bt,and_true];first|done|omega|(simp;done))) [↓zmk,beq,ybc,ybd,ybe,ae,wk,wk2,wk1,wkM,wkL,al,ybf,hcl,hx]
    |b y =>
     simp only [go_sem,hi,Int.reduceBEq,dX,eJ,fy,fA,zif,cC,cB,Mv.bo]
     refine ⟨fun hx=>?_,fun hx=>?_⟩<;>simp (disch:=first|assumption|omega|(simp;done)|(simp;omega)|(simp only [bt,and_true];first|done|omega|(simp;done))) [↓zmk,beq,ybc,ybd,ybe,ae,wk,wk2,wk1,wkM,wkL,al,ybf,hcl,hx]
  ·have hi:(op:Int)=15:=by omega
   have hv:opV op a b=.b (a.bo||b.bo):=by subst h;rfl
   rw [hv]
   cases a with
   |i z =>
    cases b with
    |i w =>
     simp only [go_sem,hi,Int.reduceBEq,dX,eJ,fy,fA,zif,cC,cB,Mv.bo]
     refine ⟨z,rfl,w,rfl,?_⟩
     simp (disch:=first|assumption|omega|(simp;done)|(simp;omega)|(simp only [bt,and_true];first|done|omega|(simp;done))) [↓zmk,beq,ybc,ybd,ybe,ae,wk,wk2,wk1,wkM,wkL,al,ybf,hcl]
    |b y =>
     simp only [go_sem,hi,Int.reduceBEq,dX,eJ,fy,fA,zif,cC,cB,Mv.bo]
     refine ⟨z,rfl,?_⟩
     simp (disch:=first|assumption|omega|(simp;done)|(simp;omega)|(simp only [bt,and_true];first|done|omega|(simp;done))) [↓zmk,beq,ybc,ybd,ybe,ae,wk,wk2,wk1,wkM,wkL,al,ybf,hcl]
   |b x =>
    cases b with
    |i w =>
     simp only [go_sem,hi,Int.reduceBEq,dX,eJ,fy,fA,zif,cC,cB,Mv.bo]
     refine ⟨fun hx=>?_,fun hx=>⟨w,rfl,?_⟩⟩<;>simp (disch:=first|assumption|omega|(simp;done)|(simp;omega)|(simp only [bt,and_true];first|done|omega|(simp;done))) [↓zmk,beq,ybc,ybd,ybe,ae,wk,wk2,wk1,wkM,wkL,al,ybf,hcl,hx]
    |b y =>
     simp only [go_sem,hi,Int.reduceBEq,dX,eJ,fy,fA,zif,cC,cB,Mv.bo]
     refine ⟨fun hx=>?_,fun hx=>?_⟩<;>simp (disch:=first|assumption|omega|(simp;done)|(simp;omega)|(simp only [bt,and_true];first|done|omega|(simp;done))) [↓zmk,beq,ybc,ybd,ybe,ae,wk,wk2,wk1,wkM,wkL,al,ybf,hcl,hx]
  ·obtain ⟨x1,x2,x3,x4,x5⟩:=h
   have d1:((op:Int)==8)=false:=beq_eq_false_iff_ne.2 (by omega)
   have d2:((op:Int)==9)=false:=beq_eq_false_iff_ne.2 (by omega)
   have d3:((op:Int)==5)=false:=beq_eq_false_iff_ne.2 (by omega)
   have d4:((op:Int)==14)=false:=beq_eq_false_iff_ne.2 (by omega)
   have d5:((op:Int)==15)=false:=beq_eq_false_iff_ne.2 (by omega)
   have hv:opV op a b=.b (!a.bo||b.bo):=by simp [opV,h4,h6,h7,h10,h11,h12,h13,x1,x2,x3,x4,x5]
   rw [hv]
   cases a with
   |i z =>
    cases b with
    |i w =>
     simp only [go_sem,d1,d2,d3,d4,d5,dX,eJ,fy,fA,zif,cC,cB,Mv.bo]
     refine ⟨z,rfl,?_⟩
     simp (disch:=first|assumption|omega|(simp;done)|(simp;omega)|(simp only [bt,and_true];first|done|omega|(simp;done))) [↓zmk,beq,ybc,ybd,ybe,ae,wk,wk2,wk1,wkM,wkL,al,ybf,hcl]
    |b y =>
     simp only [go_sem,d1,d2,d3,d4,d5,dX,eJ,fy,fA,zif,cC,cB,Mv.bo]
     refine ⟨z,rfl,?_⟩
     simp (disch:=first|assumption|omega|(simp;done)|(simp;omega)|(simp only [bt,and_true];first|done|omega|(simp;done))) [↓zmk,beq,ybc,ybd,ybe,ae,wk,wk2,wk1,wkM,wkL,al,ybf,hcl]
   |b x =>
    cases b with
    |i w =>
     simp only [go_sem,d1,d2,d3,d4,d5,dX,eJ,fy,fA,zif,cC,cB,Mv.bo]
     refine ⟨fun hx=>?_,fun hx=>⟨w,rfl,?_⟩⟩<;>simp (disch:=first|assumption|omega|(simp;done)|(simp;omega)|(simp only [bt,and_true];first|done|omega|(simp;done))) [↓zmk,beq,ybc,ybd,ybe,ae,wk,wk2,wk1,wkM,wkL,al,ybf,hcl,hx]
    |b y =>
     simp only [go_sem,d1,d2,d3,d4,d5,dX,eJ,fy,fA,zif,cC,cB,Mv.bo]
     refine ⟨fun hx=>?_,fun hx=>?_⟩<;>simp (disch:=first|assumption|omega|(simp;done)|(simp;omega)|(simp only [bt,and_true];first|done|omega|(simp;done))) [↓zmk,beq,ybc,ybd,ybe,ae,wk,wk2,wk1,wkM,wkL,al,ybf,hcl,hx]
end Go.AL
open Go Go.AL Go.Proofs
namespace Go.AL
set_option linter.all false
set_option maxRecDepth 10000
theorem mt:ti Tryz.prog 67=some ⟨.struct [(0,65,false),(1,65,false)],2,16,.agg [.int .u64 0,.int .u64 0]⟩:=by kernel_rfl
attribute [go_sem] mt
theorem ub {a b c d:Int}:teq Tryz.prog 9 67 (.agg [.int .u64 a,.int .u64 b]) (.agg [.int .u64 c,.int .u64 d])=some ((a==c)&&((b==d)&&true)):=by
 have g1:Tryz.prog.stoodInHeld 67=false:=by kernel_rfl
 simp [mt,teq,teq.go,teq.part,l5,ceq,g1,TD.agg]
theorem tR:Tryz.prog.eqGuardType Tryz.prog.depth 67=false:=by kernel_rfl
def mvs (l:List Mv):List AV:=l.map mAV
theorem bH {l:List Mv}:(mvs l).length=l.length:=by simp [mvs]
theorem C6 {l:List Mv} {k:Nat} (h:k<l.length):(mvs l).getD k .junk=mAV (l.getD k (.b false)):=by
 simp [mvs,List.getD_eq_getElem?_getD,h]
theorem vp {l:List Mv} {m:Mv}:mvs l++[mAV m]=mvs (l++[m]):=by simp [mvs]
theorem DU {n:Nat} {m:Mv}:AV.lt n (mAV m):=by cases m<;>simp [mAV,nAV,znm,znn,znq,znr,znb,znc]
theorem mB {m:Mv}:(mAV m).cells=[mAV m]:=by cases m<;>rfl
theorem CM {m:Mv}:(mAV m).one=true:=by cases m<;>rfl
theorem Cf {m:Mv}:bb (mAV m).cells=true:=by cases m<;>rfl
def mh (l:List Mv) (i:Int):Mv:=if i<0 then .b false else l.getD i.toNat (.b false)
def Dx:List AV→AHeap→(AV→Prop)→Prop
 |[.int .i64 i,.ptr c 0],H,K=>∃ mk l,H.get c=some (.cells [.slice mk 1 (mvs l)])∧K (mAV (mh l i))
 |_,_,_=>False
theorem Ep:EntOk Tryz.prog 27 (Ent.pure Dx):=by
 refine EntOk.pure fun args H K h=>?_
 unfold Dx at h
 split at h
 rotate_left
 ·exact h.elim
 rename_i i c
 obtain ⟨mk,l,hg,hK⟩:=h
 refine ⟨_,hK,?_⟩
 clear hK
 refine ACalls.fW aA TblOk.nil Tryz.func27 [.tmp 3] (Nat.le_refl _) (T:=au []) (h:=fun hcl hlt=>?_)
 clear hlt
 have hcs:=aJ (cs:=[.slice mk 1 (mvs l)]) hg
 by_cases h0:i<0
 ·have d1:decide (i<0)=true:=decide_eq_true h0
  have hv:mh l i=.b false:=by unfold mh;rw [if_pos h0]
  simp only [go_sem,hcs,d1,hv,dX]
  simp (disch:=first|assumption|omega|(simp;done)|(simp;omega)|(simp only [bt,and_true];first|done|omega|(simp;done))) [↓zmk,beq,ybc,ybd,ybe,ae,wk,wk2,wk1,wkM,wkL,al,ybf,hcl]
 ·have d1:decide (i<0)=false:=decide_eq_false h0
  by_cases h1:(l.length:Int)≤i
  ·have d2:decide ((l.length:Int)≤i)=true:=decide_eq_true h1
   have hv:mh l i=.b false:=by
    unfold mh;rw [if_neg h0,List.getD_eq_getElem?_getD,List.getElem?_eq_none (by omega)];rfl
   simp only [go_sem,hcs,d1,hv,dX,bH,d2]
   simp (disch:=first|assumption|omega|(simp;done)|(simp;omega)|(simp only [bt,and_true];first|done|omega|(simp;done))) [↓zmk,beq,ybc,ybd,ybe,ae,wk,wk2,wk1,wkM,wkL,al,ybf,hcl]
  ·have d2:decide ((l.length:Int)≤i)=false:=decide_eq_false h1
   have hi:i.toNat<l.length:=by omega
   have hv:mh l i=l.getD i.toNat (.b false):=by unfold mh;rw [if_neg h0]
   simp only [go_sem,hcs,d1,hv,bH,d2,C6 hi]
   refine ⟨by omega,by rw [mB];exact Nat.one_pos,?_⟩
   simp only [mB,yau]
   generalize l.getD i.toNat (.b false)=r
   cases r<;>simp (disch:=first|assumption|omega|(simp;done)|(simp;omega)|(simp only [bt,and_true];first|done|omega|(simp;done))) [↓zmk,beq,ybc,ybd,ybe,ae,wk,wk2,wk1,wkM,wkL,al,ybf,hcl,mAV,nAV]
theorem Em {n:Nat} {m:Mark} {l:List Mv}:AV.lt n (.slice m 1 (mvs l))=∀ id,m=.own id→id<n:=by
 rw [AV.lt]
 refine propext ⟨fun h=>h.1,fun h=>⟨h,fun j hj=>?_⟩⟩
 simp only [mvs,List.getElem_map]
 exact DU
theorem Fo {H:AHeap} (hcl:H.Closed) (k:Nat) (l:List Mv):((H.push (.cells [.slice (.own (H.nx+1)) 1 (mvs l)])).push (.buf 1 k)).Closed:=by
 have h1:=ah (i:=H.nx) (cs:=[.slice (.own (H.nx+1)) 1 (mvs l)]) (ag (a:=1) (b:=k) (ac (cs:=[]) hcl trivial)) (by
  simp only [znq,znr,and_true,zla]
  rw [Em]
  intro id hi
  injection hi with hi
  omega)
 simp only [go_sem] at h1
 exact h1
theorem Fv {n f c:Nat} (h:c<n):AV.lt n (.func (.func f) [] [.ptr c 0]):=by
 rw [AV.lt]
 refine ⟨fun j hj=>absurd hj (by simp),fun j hj=>?_⟩
 have:j=0:=by simpa using hj
 subst this
 simpa [znj] using h
/-- a tree that Holds may walk: every node's meaning is a number whose sign is bg -/
def okH (e:List (VN × Nat)) (t:List Nd):Prop:=t.length<100000∧∀ i (h:i<t.length),1≤t[i].op∧t[i].op≤16∧t[i].v<340282366920938463463374607431768211456∧(3<t[i].op→isN ((dd e t i).getD t[i].a (.b false)).num∧isN ((dd e t i).getD t[i].b (.b false)).num∧isN (((dd e t i).getD t[i].a (.b false)).num - ((dd e t i).getD t[i].b (.b false)).num))
def qj (e:List (VN × Nat)) (t:List Nd):Mv:=mh (dd e t t.length) ((t.length:Int) - 1)
def uf:List AV→AHeap→(AV→Prop)→Prop
 |[.slice _ 7 x,.slice _ 4 y],_,K=>∃ t e,(x=nds t∧y=bj e∧okH e t∧uh e)∧K (.bool (qj e t).bo)
 |_,_,_=>False
theorem qE:EntOk Tryz.prog 10 (Ent.pure uf):=by
 refine EntOk.pure fun args H K h=>?_
 unfold uf at h
 split at h
 rotate_left
 ·exact h.elim
 rename_i m x m2 y
 obtain ⟨t,e,⟨rfl,rfl,⟨ht,hn⟩,hb⟩,hK⟩:=h
 refine ⟨_,hK,?_⟩
 clear hK
 refine ACalls.fW aA (TblOk.cons Ep (TblOk.cons uD (TblOk.cons mK (TblOk.cons uS (TblOk.cons Aw (TblOk.cons oL (TblOk.cons py TblOk.nil))))))) Tryz.func10 [.tmp 4] (Nat.le_refl _) (T:=au [(9,[[],[],[],[2],[],[],[2,3],[0,2,3],[0,2,3]]),(11,[[],[],[],[],[],[],[2,3],[0,2,3],[0,2,3]]),(13,[[],[],[],[1],[],[],[1,3],[0,1,3],[0,1,3]]),(7,[[],[],[],[],[],[],[5],[],[],[],[5,6,9],[2,5,6,9,10],[2,5,6,9,10,11],[0,2,5,6,9,10,11],[0,2,5,6,9,10,11]]),(3,[[1]])]) (h:=fun hcl hlt=>?_)
 have hm:∀ n',H.nx≤n'→AV.lt n' (.slice m 7 (nds t)):=fun n' hn=>AV.lt_mono hn _ (hlt (.slice m 7 (nds t)) (by simp))
 have hm2:∀ n',H.nx≤n'→AV.lt n' (.slice m2 4 (bj e)):=fun n' hn=>AV.lt_mono hn _ (hlt (.slice m2 4 (bj e)) (by simp))
 clear hlt
 have hF:∀ n',H.nx+1≤n'→AV.lt n' (.func (.func 27) [] [.ptr H.nx 0]):=fun n' hn=>Fv (by omega)
 have hcH:=fun k l=>Fo hcl k l
 simp only [go_sem]
 refine zg 5 0 1 (cs:=[AV.slice .nil 1 []]) rfl (by simp only [go_sem]) rfl ?_
 simp only [bhq,Nat.reduceMod,Nat.reduceDiv,mg,lP,ns,u7,m8,tw,pQ,sK,rJ,yaq,yar,yao,yap,go_sem,ar,List.set_cons_zero]
 refine av (A:=Nat) (fun k=>[(0,.slice m 7 (nds t)),(1,.slice m2 4 (bj e)),(5,.ptr H.nx 0),(6,.func (.func 27) [] [.ptr H.nx 0]),(10,.slice m 7 (nds t)),(11,.int .i64 (t.length:Int)),(12,.int .i64 (k:Int))])
  (fun k=>(H.push (.cells [.slice (.own (H.nx+1)) 1 (mvs (dd e t k))])).push (.buf 1 k)) (fun k=>k≤t.length) (fun k=>t.length - k) 0 (Nat.zero_le _) ?_ fun k hk=>?_
 ·(simp only [bkq,enterW,aS,ltF,ne_eq,Nat.reduceEqDiff,reduceCtorEq,hm,hm2,hF,hcH];try simp (disch:=first|assumption|omega|(simp;done)|(simp;omega)|(simp only [bt,and_true];first|done|omega|(simp;done))) [↓zmk,beq,ybc,ybd,ybe,ae,wk,wk2,wk1,wkM,wkL,al,ybf,byq,biq,af,hcl,hm,hm2,hF,hcH];try (repeat' (first|assumption|omega|exact True.intro|refine And.intro ?_ ?_|refine ag ?_|refine aa ?_|refine ac ?_ ?_|refine ah ?_ ?_|refine ai ?_|exact AHeap.Le.refl _|refine AHeap.Le.push ?_ _|refine AHeap.Le.del ?_ ?_|(simp only [bt,and_true,true_and,hm,hm2,hF,hcH];first|done|omega|(simp;done)))))
 simp only [go_sem]
 refine aj (fun hc=>?_) (fun hc=>?_)
 ·have hk1:k<t.length:=by simp at hc;omega
  have e5:IntKind.i64.wrap ((k:Int)+1)=((k+1:Nat):Int):=by rw [wrap_i64]<;>omega
  obtain ⟨o1,o2,hv1,hnum⟩:=hn k hk1
  have hvk:dd e t (k+1)=dd e t k++[e9 e (dd e t k) t[k]]:=by
   rw [dd,show t.getD k default=t[k] by simp [List.getD_eq_getElem?_getD,hk1]]
  obtain ⟨L,hL⟩:∃ L,dd e t k=L:=⟨_,rfl⟩
  rw [hL] at hvk hnum
  have hLl:L.length=k:=by rw [← hL,iu]
  have hgk:=bV hk1
  have hb1:t[k].v % 2^64<18446744073709551616:=Nat.mod_lt _ (by decide)
  have hz:((((t[k].v/2^64:Nat):Int)*2^64+((t[k].v % 2^64:Nat):Int):Int))=(t[k].v:Int):=by omega
  have hfo0:mvs L++[mAV (e9 e L t[k])]=mvs (dd e t (k+1)):=by rw [hvk,vp]
  rcases (by omega:t[k].op=1∨t[k].op=2∨t[k].op=3∨3<t[k].op) with c|c|c|c
  ·have d1:((t[k].op:Int)==1)=true:=by rw [c];rfl
   have hw:e9 e L t[k]=.i t[k].v:=by unfold e9;rw [if_pos c]
   have hfo:=hfo0
   rw [hw,eJ,nAV] at hfo
   simp only [go_sem,hL,ar,hgk,d1,Int.toNat_natCast,nK,hz,nAV]
   refine ⟨by omega,by omega,?_⟩
   refine ⟨⟨by rw [bH,hLl],by rw [bH];omega,by rw [bH];omega,fun z hz=>?_⟩,k+1,by omega,by omega,?_⟩
   ·rw [List.mem_singleton.1 hz];rfl
   simp only [hfo,bH,hLl,e5]
   (simp only [bkq,enterW,aS,ltF,ne_eq,Nat.reduceEqDiff,reduceCtorEq,hm,hm2,hF,hcH];try simp (disch:=first|assumption|omega|(simp;done)|(simp;omega)|(simp only [bt,and_true];first|done|omega|(simp;done))) [↓zmk,beq,ybc,ybd,ybe,ae,wk,wk2,wk1,wkM,wkL,al,ybf,byq,biq,af,hcl,hm,hm2,hF,hcH];try (repeat' (first|assumption|omega|exact True.intro|refine And.intro ?_ ?_|refine ag ?_|refine aa ?_|refine ac ?_ ?_|refine ah ?_ ?_|refine ai ?_|exact AHeap.Le.refl _|refine AHeap.Le.push ?_ _|refine AHeap.Le.del ?_ ?_|(simp only [bt,and_true,true_and,hm,hm2,hF,hcH];first|done|omega|(simp;done)))))
  ·have d1:((t[k].op:Int)==1)=false:=by rw [c];rfl
   have d2:((t[k].op:Int)==2)=true:=by rw [c];rfl
   have hvq:(((t[k].v/2^64:Nat):Int)==0&&((t[k].v % 2^64:Nat):Int)==1)=decide (t[k].v=1):=by
    rw [Bool.eq_iff_iff];simp only [Bool.and_eq_true,beq_iff_eq,decide_eq_true_eq];omega
   have hw:e9 e L t[k]=.b (decide (t[k].v=1)):=by unfold e9;rw [if_neg (by omega),if_pos c]
   have hfo:=hfo0
   rw [hw,dX] at hfo
   simp only [go_sem,hL,ar,hgk,d1,d2,Int.toNat_natCast,ne,ub,tR,Bool.bne_false,Bool.and_true,hvq]
   refine ⟨by omega,?_⟩
   refine ⟨⟨by rw [bH,hLl],by rw [bH];omega,by rw [bH];omega,fun z hz=>?_⟩,k+1,by omega,by omega,?_⟩
   ·rw [List.mem_singleton.1 hz];rfl
   simp only [hfo,bH,hLl,e5]
   (simp only [bkq,enterW,aS,ltF,ne_eq,Nat.reduceEqDiff,reduceCtorEq,hm,hm2,hF,hcH];try simp (disch:=first|assumption|omega|(simp;done)|(simp;omega)|(simp only [bt,and_true];first|done|omega|(simp;done))) [↓zmk,beq,ybc,ybd,ybe,ae,wk,wk2,wk1,wkM,wkL,al,ybf,byq,biq,af,hcl,hm,hm2,hF,hcH];try (repeat' (first|assumption|omega|exact True.intro|refine And.intro ?_ ?_|refine ag ?_|refine aa ?_|refine ac ?_ ?_|refine ah ?_ ?_|refine ai ?_|exact AHeap.Le.refl _|refine AHeap.Le.push ?_ _|refine AHeap.Le.del ?_ ?_|(simp only [bt,and_true,true_and,hm,hm2,hF,hcH];first|done|omega|(simp;done)))))
  ·have d1:((t[k].op:Int)==1)=false:=by rw [c];rfl
   have d2:((t[k].op:Int)==2)=false:=by rw [c];rfl
   have d3:((t[k].op:Int)==3)=true:=by rw [c];rfl
   have hw:e9 e L t[k]=.i (gC e (t[k].name,t[k].attr)):=by unfold e9;rw [if_neg (by omega),if_neg (by omega),if_pos c]
   have hfo:=hfo0
   rw [hw,eJ,nAV] at hfo
   simp only [go_sem,hL,ar,hgk,d1,d2,d3,Int.toNat_natCast]
   refine ⟨by omega,t[k],e,⟨rfl,rfl,hb⟩,?_⟩
   simp only [go_sem,nAV]
   refine ⟨⟨by rw [bH,hLl],by rw [bH];omega,by rw [bH];omega,fun z hz=>?_⟩,k+1,by omega,by omega,?_⟩
   ·rw [List.mem_singleton.1 hz];rfl
   simp only [hfo,bH,hLl,e5]
   (simp only [bkq,enterW,aS,ltF,ne_eq,Nat.reduceEqDiff,reduceCtorEq,hm,hm2,hF,hcH];try simp (disch:=first|assumption|omega|(simp;done)|(simp;omega)|(simp only [bt,and_true];first|done|omega|(simp;done))) [↓zmk,beq,ybc,ybd,ybe,ae,wk,wk2,wk1,wkM,wkL,al,ybf,byq,biq,af,hcl,hm,hm2,hF,hcH];try (repeat' (first|assumption|omega|exact True.intro|refine And.intro ?_ ?_|refine ag ?_|refine aa ?_|refine ac ?_ ?_|refine ah ?_ ?_|refine ai ?_|exact AHeap.Le.refl _|refine AHeap.Le.push ?_ _|refine AHeap.Le.del ?_ ?_|(simp only [bt,and_true,true_and,hm,hm2,hF,hcH];first|done|omega|(simp;done)))))
  ·have d1:((t[k].op:Int)==1)=false:=beq_eq_false_iff_ne.2 (by omega)
   have d2:((t[k].op:Int)==2)=false:=beq_eq_false_iff_ne.2 (by omega)
   have d3:((t[k].op:Int)==3)=false:=beq_eq_false_iff_ne.2 (by omega)
   have hw:e9 e L t[k]=opV t[k].op (L.getD t[k].a (.b false)) (L.getD t[k].b (.b false)):=by unfold e9;rw [if_neg (by omega),if_neg (by omega),if_neg (by omega)]
   have hga:mh L (t[k].a:Int)=L.getD t[k].a (.b false):=by unfold mh;rw [if_neg (by omega),Int.toNat_natCast]
   have hgb:mh L (t[k].b:Int)=L.getD t[k].b (.b false):=by unfold mh;rw [if_neg (by omega),Int.toNat_natCast]
   obtain ⟨n1,n2,n3⟩:=hnum c
   have hfo:=hfo0
   rw [hw] at hfo
   simp only [go_sem,hL,ar,hgk,d1,d2,d3,Int.toNat_natCast]
   refine ⟨by omega,?_⟩
   refine ⟨_,L,by simp only [go_sem];rfl,?_⟩
   simp only [go_sem,hga,hgb]
   refine ⟨_,L,by simp only [go_sem];rfl,?_⟩
   simp only [go_sem,hga,hgb]
   refine ⟨t[k].op,_,_,⟨rfl,c,by omega,rfl,rfl,n1,n2,n3⟩,?_⟩
   simp only [go_sem,hga,hgb,mB,CM]
   refine ⟨⟨by rw [bH,hLl],by rw [bH];omega,by rw [bH];omega,fun z hz=>?_⟩,k+1,by omega,by omega,?_⟩
   ·rw [List.mem_singleton.1 hz];exact Cf
   simp only [hfo,bH,hLl,e5]
   (simp only [bkq,enterW,aS,ltF,ne_eq,Nat.reduceEqDiff,reduceCtorEq,hm,hm2,hF,hcH];try simp (disch:=first|assumption|omega|(simp;done)|(simp;omega)|(simp only [bt,and_true];first|done|omega|(simp;done))) [↓zmk,beq,ybc,ybd,ybe,ae,wk,wk2,wk1,wkM,wkL,al,ybf,byq,biq,af,hcl,hm,hm2,hF,hcH];try (repeat' (first|assumption|omega|exact True.intro|refine And.intro ?_ ?_|refine ag ?_|refine aa ?_|refine ac ?_ ?_|refine ah ?_ ?_|refine ai ?_|exact AHeap.Le.refl _|refine AHeap.Le.push ?_ _|refine AHeap.Le.del ?_ ?_|(simp only [bt,and_true,true_and,hm,hm2,hF,hcH];first|done|omega|(simp;done)))))
 ·have hk1:k=t.length:=by simp at hc;omega
  subst hk1
  have e6:IntKind.i64.wrap ((t.length:Int) - 1)=(t.length:Int) - 1:=by rw [wrap_i64]<;>omega
  simp only [go_sem,ar,e6]
  refine ⟨_,dd e t t.length,by simp only [go_sem];rfl,?_⟩
  obtain ⟨R,hR⟩:∃ R,mh (dd e t t.length) ((t.length:Int) - 1)=R:=⟨_,rfl⟩
  rw [show qj e t=R from hR,hR]
  cases R with
  |i z =>
   simp only [go_sem,dX,eJ,fy,fA,zif,cC,cB,Mv.bo]
   refine ⟨z,rfl,?_⟩
   simp (disch:=first|assumption|omega|(simp;done)|(simp;omega)|(simp only [bt,and_true];first|done|omega|(simp;done))) [↓zmk,beq,ybc,ybd,ybe,ae,wk,wk2,wk1,wkM,wkL,al,ybf,hcl,hcH]
  |b x =>
   simp only [go_sem,dX,eJ,fy,fA,zif,cC,cB,Mv.bo]
   simp (disch:=first|assumption|omega|(simp;done)|(simp;omega)|(simp only [bt,and_true];first|done|omega|(simp;done))) [↓zmk,beq,ybc,ybd,ybe,ae,wk,wk2,wk1,wkM,wkL,al,ybf,hcl,hcH]
end Go.AL
