/- Lemmas of the proof; no condition. -/
import Derived.Test.YtokjjhidigoodaaGreatS08i
import Derived.Test.YtokjjhidigoodaaGreatLEval
set_option linter.all false
set_option maxRecDepth 10000
set_option maxHeartbeats 32000000
open List renaming length_cons → yaz, length_nil → yba, take_of_length_le → ybc, drop_append → ybd, take_append → ybe, drop_eq_nil_of_le → ybf, getD_cons_zero → yau, take_succ_cons → yaq, take_zero → yar, drop_succ_cons → yao, drop_zero → yap
open Go Go.AL Go.Proofs
namespace Go.AL
theorem pE:ti Tryz.prog 201=some ⟨.struct [(0,198,false)],3,24,.agg [.int .u64 0,.int .u64 0,.int .u64 0]⟩:=by kernel_rfl
theorem uQ:ti Tryz.prog 194=some ⟨.bool,1,1,.bool false⟩:=by kernel_rfl
theorem KB:ti Tryz.prog 193=some ⟨.iface 1,1,16,.nili⟩:=by kernel_rfl
theorem GV:ti Tryz.prog 191=some ⟨.slice 193,1,24,.slice .nil 1 []⟩:=by kernel_rfl
theorem Ih:ti Tryz.prog 206=some ⟨.struct [(0,9,false),(1,9,false),(2,48,false)],4,48,.agg [.str [],.str [],.int .u64 0,.int .u64 0]⟩:=by kernel_rfl
theorem Gk:ti Tryz.prog 98=some ⟨.slice 206,1,24,.slice .nil 1 []⟩:=by kernel_rfl
attribute [go_sem] pE uQ KB GV Ih Gk
def mAV:Mv→AV
 |.i z=>.iface 201 (nAV z)
 |.b x=>.iface 194 (.bool x)
def iy (x:VN × Nat):AV:=.agg [.str x.1.1,.str x.1.2,.int .u64 ((x.2/2^64:Nat):Int),.int .u64 ((x.2 % 2^64:Nat):Int)]
def aU (l:List (VN × Nat)):List AV:=l.map iy
theorem aC {l:List (VN × Nat)}:(aU l).length=l.length:=by simp [aU]
theorem ur {l:List (VN × Nat)} {k:Nat} (h:k<l.length):(aU l).getD k .junk=.agg [.str l[k].1.1,.str l[k].1.2,.int .u64 ((l[k].2/2^64:Nat):Int),.int .u64 ((l[k].2 % 2^64:Nat):Int)]:=by
 simp [aU,iy,gEq,h]
theorem aA {n:Nat} {m:Mark} {l:List (VN × Nat)}:AV.lt n (.slice m 4 (aU l))=∀ id,m=.own id→id<n:=by
 rw [AV.lt]
 refine propext ⟨fun h=>h.1,fun h=>⟨h,fun j hj=>?_⟩⟩
 simp only [aU,List.getElem_map,iy]
 simp [znn,znq,znr,znd,znb]
def eI:List AV→AHeap→(AV→Prop)→Prop
 |[x],_,K=>∃ z,x=nAV z∧K (.bool false)
 |_,_,_=>False
theorem w4:EntOk Tryz.prog 532 (Ent.pure eI):=by
 refine Ype fun _ H K h=>?_
 unfold eI at h
 split at h
 rotate_left
 ·exact h.elim
 obtain ⟨z,rfl,hK⟩:=h
 refine ⟨_,hK,?_⟩
 clear hK
 refine Yfv ax tNq Tryz.func532 [.tmp 2] fun hcl hlt=>?_
 clear hlt
 simp only [go_sem,nAV]
 exact Z0
def eH:List AV→AHeap→(AV→Prop)→Prop
 |[.bool x],_,K=>K (.bool x)
 |_,_,_=>False
theorem vN:EntOk Tryz.prog 407 (Ent.pure eH):=by
 refine Ype fun _ H K h=>?_
 unfold eH at h
 split at h
 rotate_left
 ·exact h.elim
 refine ⟨_,h,?_⟩
 clear h
 refine Yfv ax tNq Tryz.func407 [.tmp 2] fun hcl hlt=>?_
 clear hlt
 exact Y47
theorem B9:nAV 0=.agg [.int .u64 0,.int .u64 0,.int .u64 0]:=by rfl
theorem uL:(194=201)=False:=eq_false (by decide)
def w9:List AV→AHeap→(AV→Prop)→Prop
 |[x],_,K=>∃ m,x=mAV m∧K (nAV m.num)
 |_,_,_=>False
theorem uA:EntOk Tryz.prog 289 (Ent.pure w9):=by
 refine Ype fun _ H K h=>?_
 unfold w9 at h
 split at h
 rotate_left
 ·exact h.elim
 obtain ⟨m,rfl,hK⟩:=h
 refine ⟨_,hK,?_⟩
 clear hK
 cases m with
 |i z =>
  refine Yfv ax tNq Tryz.func289 [.cell 2 198] fun hcl hlt=>?_
  clear hlt
  simp only [go_sem,mAV,Mv.num,io,pE,if_true,nAV]
  exact Z0
 |b x =>
  refine Yfv ax tNq Tryz.func289 [.cell 2 198] fun hcl hlt=>?_
  clear hlt
  simp only [go_sem,mAV,Mv.num,B9,io,pE,uL]
  exact Z0
def Ax (e:List (VN × Nat)):Prop:=e.length<4611686018427387904∧∀ x∈e,x.2<340282366920938463463374607431768211456
def yl:List AV→AHeap→(AV→Prop)→Prop
 |[x,.slice _ 4 y],_,K=>∃ n e,(x=kL n∧y=aU e∧Ax e)∧K (nAV (k8 e (n.name,n.attr)))
 |_,_,_=>False
theorem jX {y x:VN} {v:Nat} {l:List (VN × Nat)}:k8 ((y,v)::l) x=if y=x then (v:Int) else k8 l x:=rfl
theorem DT:EntOk Tryz.prog 129 (Ent.pure yl):=by
 refine Ype fun _ H K h=>?_
 unfold yl at h
 split at h
 rotate_left
 ·exact h.elim
 rename_i x m y
 obtain ⟨n,e,⟨rfl,rfl,hl,hv⟩,hK⟩:=h
 obtain ⟨Q,hQ⟩:∃ Q,k8 e (n.name,n.attr)=Q:=⟨_,rfl⟩
 rw [hQ] at hK
 refine ⟨_,hK,?_⟩
 clear hK
 refine Yfv ax (tCq A0 (tCq Kj tNq)) Tryz.func129 [.cell 4 198] fun hcl hlt=>?_
 have hm:∀ n',H.nx≤n'→AV.lt n' (.slice m 4 (aU e)):=fun n' hn=>AV.lt_mono hn _ (hlt (.slice m 4 (aU e)) (by simp))
 clear hlt
 simp only [go_sem,kL,aC]
 refine az (A:=Nat) (fun j=>[(2,.ptr H.nx 0),(4,.ptr (H.nx+1) 0),(7,.slice m 4 (aU e)),(8,.int .i64 (e.length:Int)),(9,.int .i64 (j:Int))])
  (fun _=>(H.push (.cells [.int .i64 (n.op:Int),.int .i64 (n.a:Int),.int .i64 (n.b:Int),.str n.name,.str n.attr,.int .u64 ((n.v/2^64:Nat):Int),.int .u64 ((n.v % 2^64:Nat):Int)])).push (.cells [.int .u64 0,.int .u64 0,.int .u64 0])) (fun j=>j≤e.length∧k8 (e.drop j) (n.name,n.attr)=Q) (fun j=>e.length - j) 0 ⟨Nat.zero_le _,hQ⟩ ?_ fun j hj=>?_
 ·exact Z51
 obtain ⟨hj,hq⟩:=hj
 simp only [go_sem]
 refine au (fun hc=>?_) (fun hc=>?_)
 ·have hj1:j<e.length:=by simp at hc;omega
  have e5:IntKind.i64.wrap ((j:Int)+1)=((j+1:Nat):Int):=by rw [wrap_i64]<;>omega
  have hne:(H.nx=H.nx+2)=False:=eq_false (by omega)
  have hv1:e[j].2<340282366920938463463374607431768211456:=hv e[j] (gMq hj1)
  rw [dcq hj1] at hq
  have hz:((((e[j].2/2^64:Nat):Int)*2^64+((e[j].2 % 2^64:Nat):Int):Int))=(e[j].2:Int):=by omega
  simp only [go_sem,aC,ur hj1,iNq,hne,e5]
  refine ⟨by omega,fun h1=>?_,fun h1=>?_⟩
  ·cases h2:(e[j].1.2==n.attr)
   ·have hx:¬ (e[j].1=(n.name,n.attr)):=fun h=>by rw [h] at h2;simp at h2
    rw [show e[j]=(e[j].1,e[j].2) from rfl,jX,if_neg hx] at hq
    simp only [go_sem,h2]
    refine ⟨j+1,⟨by omega,hq⟩,by omega,?_⟩
    exact Z51
   ·have hx:e[j].1=(n.name,n.attr):=Prod.ext (eq_of_beq h1) (eq_of_beq h2)
    rw [show e[j]=(e[j].1,e[j].2) from rfl,jX,if_pos hx] at hq
    subst hq
    simp only [go_sem,h2,u6,hz,nAV]
    exact Y34
  ·have hx:¬ (e[j].1=(n.name,n.attr)):=fun h=>by rw [h] at h1;simp at h1
   rw [show e[j]=(e[j].1,e[j].2) from rfl,jX,if_neg hx] at hq
   refine ⟨j+1,⟨by omega,hq⟩,by omega,?_⟩
   exact Z51
 ·have hj1:j=e.length:=by simp at hc;omega
  subst hj1
  rw [List.drop_length] at hq
  have hq':0=Q:=hq
  subst hq'
  simp only [go_sem,EI,B9]
  exact Y34
theorem rz {a b:Int}:decide (ki a b<0)=decide (a<b):=by unfold ki;split<;>(try split)<;>simp<;>omega
theorem se {a b:Int}:decide (ki a b≤0)=decide (a≤b):=by unfold ki;split<;>(try split)<;>simp<;>omega
theorem sq {a b:Int}:decide (0<ki a b)=decide (b<a):=by unfold ki;split<;>(try split)<;>simp<;>omega
theorem sC {a b:Int}:decide (0≤ki a b)=decide (b≤a):=by unfold ki;split<;>(try split)<;>simp<;>omega
def rj (op:Nat) (a b:Int):Option Mv :=
 if op=4 then some (.i (-a)) else if op=6 then some (.i (a+b)) else if op=7 then some (.i (a - b))
 else if op=10 then some (.b (decide (a<b))) else if op=11 then some (.b (decide (a≤b))) else if op=12 then some (.b (decide (b<a))) else if op=13 then some (.b (decide (b≤a))) else none
def vJ:Option Mv→AV
 |some m=>.tup [mAV m,.bool true]
 |none=>.tup [.nili,.bool false]
def CS:List AV→AHeap→(AV→Prop)→Prop
 |[.int .i64 z,x,y],_,K=>∃ op a b,(z=((op:Nat):Int)∧op<100∧x=nAV a∧y=nAV b∧isN a∧isN b∧isN (a - b))∧K (vJ (rj op a b))
 |_,_,_=>False
theorem LP:EntOk Tryz.prog 288 (Ent.pure CS):=by
 refine Ype fun _ H K h=>?_
 unfold CS at h
 split at h
 rotate_left
 ·exact h.elim
 rename_i z x y
 obtain ⟨op,a,b,⟨rfl,ho,rfl,rfl,ha,hb,hc⟩,hK⟩:=h
 refine ⟨_,hK,?_⟩
 clear hK
 refine Yfv ax (tCq EQ (tCq AG (tCq ER (tCq BO tNq)))) Tryz.func288 [.tmp 6,.tmp 7] fun hcl hlt=>?_
 clear hlt
 rcases (by omega:op=4∨op=6∨op=7∨op=10∨op=11∨op=12∨op=13∨(op≠4∧op≠6∧op≠7∧op≠10∧op≠11∧op≠12∧op≠13)) with h|h|h|h|h|h|h|h
 ·have hi:(op:Int)=4:=by omega
  have hs:rj op a b=some (.i (-a)):=by subst h;rfl
  simp only [go_sem,nAV,hs,vJ,mAV,C7,hi,Int.reduceBEq]
  refine ⟨a,rfl,?_⟩
  exact Z0
 ·have hi:(op:Int)=6:=by omega
  have hs:rj op a b=some (.i (a+b)):=by subst h;rfl
  simp only [go_sem,nAV,hs,vJ,mAV,zX,hi,Int.reduceBEq]
  refine ⟨a,b,⟨rfl,rfl⟩,?_⟩
  exact Z0
 ·have hi:(op:Int)=7:=by omega
  have hs:rj op a b=some (.i (a - b)):=by subst h;rfl
  simp only [go_sem,nAV,hs,vJ,mAV,zZ,hi,Int.reduceBEq]
  refine ⟨a,b,⟨rfl,rfl⟩,?_⟩
  exact Z0
 ·have hi:(op:Int)=10:=by omega
  have hs:rj op a b=some (.b (decide (a<b))):=by subst h;rfl
  exact Y46
 ·have hi:(op:Int)=11:=by omega
  have hs:rj op a b=some (.b (decide (a≤b))):=by subst h;rfl
  exact Y46
 ·have hi:(op:Int)=12:=by omega
  have hs:rj op a b=some (.b (decide (b<a))):=by subst h;rfl
  exact Y46
 ·have hi:(op:Int)=13:=by omega
  have hs:rj op a b=some (.b (decide (b≤a))):=by subst h;rfl
  exact Y46
 ·obtain ⟨h1,h2,h3,h4,h5,h6,h7⟩:=h
  have d1:((op:Int)==4)=false:=beq_eq_false_iff_ne.2 (by omega)
  have d2:((op:Int)==6)=false:=beq_eq_false_iff_ne.2 (by omega)
  have d3:((op:Int)==7)=false:=beq_eq_false_iff_ne.2 (by omega)
  have d4:((op:Int)==10)=false:=beq_eq_false_iff_ne.2 (by omega)
  have d5:((op:Int)==11)=false:=beq_eq_false_iff_ne.2 (by omega)
  have d6:((op:Int)==12)=false:=beq_eq_false_iff_ne.2 (by omega)
  have d7:((op:Int)==13)=false:=beq_eq_false_iff_ne.2 (by omega)
  have hs:rj op a b=none:=by simp [rj,h1,h2,h3,h4,h5,h6,h7]
  simp only [go_sem,nAV,hs,vJ,d1,d2,d3,d4,d5,d6,d7]
  exact Z0
theorem iE {z:Int}:mAV (.i z)=.iface 201 (nAV z):=rfl
theorem gU {x:Bool}:mAV (.b x)=.iface 194 (.bool x):=rfl
def Cc:List AV→AHeap→(AV→Prop)→Prop
 |[x,y],_,K=>∃ a b,(x=mAV a∧y=mAV b∧isN a.num∧isN b.num)∧K (.bool (mEq a b))
 |_,_,_=>False
theorem OL : mth Tryz.prog 201 "matchguard/eval.holds" = some 532 := by kernel_rfl
theorem OP : mth Tryz.prog 194 "matchguard/eval.holds" = some 407 := by kernel_rfl
theorem jF {v : AV} : GC Tryz.prog "matchguard/eval.holds" (.iface 201 v) = .func (.func 532) [] [] := vj OL
theorem jE {v : AV} : GC Tryz.prog "matchguard/eval.holds" (.iface 194 v) = .func (.func 407) [] [] := vj OP
theorem FM:EntOk Tryz.prog 290 (Ent.pure Cc):=by
 refine Ype fun _ H K h=>?_
 unfold Cc at h
 split at h
 rotate_left
 ·exact h.elim
 rename_i x y
 obtain ⟨a,b,⟨rfl,rfl,ha,hb⟩,hK⟩:=h
 refine ⟨_,hK,?_⟩
 clear hK
 refine Yfv ax (tCq uA (tCq vN (tCq w4 tNq))) Tryz.func290 [.tmp 4] fun hcl hlt=>?_
 clear hlt
 cases a with
 |i z =>
  have hq:((w0 z==w0 b.num)&&((w1 z==w1 b.num)&&(w2 z==w2 b.num)))=decide (z=b.num):=OG ha hb
  have hz:mEq (.i z) b=decide (z=b.num):=rfl
  simp only [go_sem,iE,io,pE,uQ,uL,if_true,nAV,hz]
  refine ⟨b,rfl,?_⟩
  simp only [go_sem,nAV,LU,Mp,hq,Bool.bne_false]
  exact Z0
 |b x =>
  cases b with
  |i z =>
   simp only [go_sem,iE,gU,io,pE,uQ,uL,if_true,nAV,mEq,Mv.bo,jF,jE,zif,eH,eI,Bool.bne_false]
   refine ⟨z,rfl,?_⟩
   exact Z0
  |b y =>
   simp only [go_sem,iE,gU,io,pE,uQ,uL,if_true,nAV,mEq,Mv.bo,jF,jE,zif,eH,eI,Bool.bne_false]
   exact Z0
theorem K9 {op:Nat} {a b v:Mv} (h:rj op a.num b.num=some v):opV op a b=v:=by
 unfold rj at h;unfold opV
 repeat' split at h
 all_goals first|(cases h;simp_all;done)|(cases h)
def En:List AV→AHeap→(AV→Prop)→Prop
 |[.int .i64 z,x,y],_,K=>∃ op a b,(z=((op:Nat):Int)∧3<op∧op<100∧x=mAV a∧y=mAV b∧isN a.num∧isN b.num∧isN (a.num - b.num))∧K (mAV (opV op a b))
 |_,_,_=>False
theorem IR {op:Nat} {a b:Int} (h:rj op a b=none):op≠4∧op≠6∧op≠7∧op≠10∧op≠11∧op≠12∧op≠13:=by
 unfold rj at h
 repeat' split at h
 all_goals first|(cases h;done)|omega
theorem Ku:EntOk Tryz.prog 130 (Ent.pure En):=by
 refine Ype fun _ H K h=>?_
 unfold En at h
 split at h
 rotate_left
 ·exact h.elim
 rename_i z x y
 obtain ⟨op,a,b,⟨rfl,h3,ho,rfl,rfl,ha,hb,hc⟩,hK⟩:=h
 refine ⟨_,hK,?_⟩
 clear hK
 refine Yfv ax (tCq uA (tCq LP (tCq FM (tCq vN (tCq w4 tNq))))) Tryz.func130 [.tmp 6] fun hcl hlt=>?_
 clear hlt
 simp only [go_sem]
 refine ⟨a,rfl,?_⟩
 simp only [go_sem]
 refine ⟨b,rfl,?_⟩
 simp only [go_sem,CS]
 refine ⟨op,a.num,b.num,⟨rfl,ho,rfl,rfl,ha,hb,hc⟩,?_⟩
 cases hs:rj op a.num b.num with
 |some v =>
  have hv:=K9 hs
  simp only [go_sem,vJ,hv]
  cases v<;>simp (disch:=first|exact Zd|omega) [↓zmk,beq,ybc,ybd,ybe,af,wk,wk2,wk1,wkM,wkL,aj,ybf,hcl,mAV,nAV]
 |none =>
  obtain ⟨h4,h6,h7,h10,h11,h12,h13⟩:=IR hs
  simp only [go_sem,vJ]
  rcases (by omega:op=8∨op=9∨op=5∨op=14∨op=15∨(op≠8∧op≠9∧op≠5∧op≠14∧op≠15)) with h|h|h|h|h|h
  ·have hi:(op:Int)=8:=by omega
   have hv:opV op a b=.b (mEq a b):=by subst h;rfl
   simp only [go_sem,hi,Int.reduceBEq,hv,gU]
   refine ⟨a,b,⟨rfl,rfl,ha,hb⟩,?_⟩
   exact Y47
  ·have hi:(op:Int)=9:=by omega
   have hv:opV op a b=.b (!mEq a b):=by subst h;rfl
   simp only [go_sem,hi,Int.reduceBEq,hv,gU]
   refine ⟨a,b,⟨rfl,rfl,ha,hb⟩,?_⟩
   exact Y47
  ·have hi:(op:Int)=5:=by omega
   have hv:opV op a b=.b (!a.bo):=by subst h;rfl
   rw [hv]
   cases a with
   |i z =>
    exact Y73
   |b x =>
    simp only [go_sem,hi,Int.reduceBEq,gU,iE,jF,jE,zif,eH,eI,Mv.bo]
    exact Z0
  ·have hi:(op:Int)=14:=by omega
   have hv:opV op a b=.b (a.bo&&b.bo):=by subst h;rfl
   rw [hv]
   cases a with
   |i z =>
    cases b with
    |i w =>
     exact Y73
    |b y =>
     exact Y73
   |b x =>
    cases b with
    |i w =>
     simp only [go_sem,hi,Int.reduceBEq,gU,iE,jF,jE,zif,eH,eI,Mv.bo]
     refine ⟨fun hx=>⟨w,rfl,?_⟩,fun hx=>?_⟩<;>simp (disch:=first|exact Zd|omega) [↓zmk,beq,ybc,ybd,ybe,af,wk,wk2,wk1,wkM,wkL,aj,ybf,hcl,hx]
    |b y =>
     simp only [go_sem,hi,Int.reduceBEq,gU,iE,jF,jE,zif,eH,eI,Mv.bo]
     exact Y77
  ·have hi:(op:Int)=15:=by omega
   have hv:opV op a b=.b (a.bo||b.bo):=by subst h;rfl
   rw [hv]
   cases a with
   |i z =>
    cases b with
    |i w =>
     simp only [go_sem,hi,Int.reduceBEq,gU,iE,jF,jE,zif,eH,eI,Mv.bo]
     refine ⟨z,rfl,w,rfl,?_⟩
     exact Z0
    |b y =>
     exact Y73
   |b x =>
    cases b with
    |i w =>
     simp only [go_sem,hi,Int.reduceBEq,gU,iE,jF,jE,zif,eH,eI,Mv.bo]
     exact Y113
    |b y =>
     simp only [go_sem,hi,Int.reduceBEq,gU,iE,jF,jE,zif,eH,eI,Mv.bo]
     exact Y77
  ·obtain ⟨x1,x2,x3,x4,x5⟩:=h
   have d1:((op:Int)==8)=false:=beq_eq_false_iff_ne.2 (by omega)
   have d2:((op:Int)==9)=false:=beq_eq_false_iff_ne.2 (by omega)
   have d3:((op:Int)==5)=false:=beq_eq_false_iff_ne.2 (by omega)
   have d4:((op:Int)==14)=false:=beq_eq_false_iff_ne.2 (by omega)
   have d5:((op:Int)==15)=false:=beq_eq_false_iff_ne.2 (by omega)
   have hv:opV op a b=.b (!a.bo||b.bo):=by simp [opV,h4,h6,h7,h10,h11,h12,h13,x1,x2,x3,x4,x5]
   rw [hv]
   cases a with
   |i z =>
    cases b with
    |i w =>
     exact Y149
    |b y =>
     exact Y149
   |b x =>
    cases b with
    |i w =>
     simp only [go_sem,d1,d2,d3,d4,d5,gU,iE,jF,jE,zif,eH,eI,Mv.bo]
     exact Y113
    |b y =>
     simp only [go_sem,d1,d2,d3,d4,d5,gU,iE,jF,jE,zif,eH,eI,Mv.bo]
     exact Y77
theorem ES:ti Tryz.prog 48=some ⟨.struct [(0,46,false),(1,46,false)],2,16,.agg [.int .u64 0,.int .u64 0]⟩:=by kernel_rfl
attribute [go_sem] ES
theorem A7 {a b c d:Int}:teq Tryz.prog 9 48 (.agg [.int .u64 a,.int .u64 b]) (.agg [.int .u64 c,.int .u64 d])=some ((a==c)&&((b==d)&&true)):=by
 have g1:Tryz.prog.stoodInHeld 48=false:=by kernel_rfl
 simp [ES,teq,teq.go,teq.part,uK,ceq,g1,TD.agg]
theorem BB:Tryz.prog.eqGuardType Tryz.prog.depth 48=false:=by kernel_rfl
def mvs (l:List Mv):List AV:=l.map mAV
theorem cM {l:List Mv}:(mvs l).length=l.length:=by simp [mvs]
theorem MD {l:List Mv} {k:Nat} (h:k<l.length):(mvs l).getD k .junk=mAV (l.getD k (.b false)):=by
 simp [mvs,gEq,h]
theorem Ec {l:List Mv} {m:Mv}:mvs l++[mAV m]=mvs (l++[m]):=by simp [mvs]
theorem Nt {n:Nat} {m:Mv}:AV.lt n (mAV m):=by cases m<;>simp [mAV,nAV,znm,znn,znq,znr,znb,znc]
theorem tY {m:Mv}:(mAV m).cells=[mAV m]:=by cases m<;>rfl
theorem LB {m:Mv}:(mAV m).one=true:=by cases m<;>rfl
theorem MF {m:Mv}:bM (mAV m).cells=true:=by cases m<;>rfl
def sK (l:List Mv) (i:Int):Mv:=if i<0 then .b false else l.getD i.toNat (.b false)
def M5:List AV→AHeap→(AV→Prop)→Prop
 |[.int .i64 i,.ptr c 0],H,K=>∃ mk l,H.get c=some (.cells [.slice mk 1 (mvs l)])∧K (mAV (sK l i))
 |_,_,_=>False
theorem Np:EntOk Tryz.prog 127 (Ent.pure M5):=by
 refine Ype fun _ H K h=>?_
 unfold M5 at h
 split at h
 rotate_left
 ·exact h.elim
 rename_i i c
 obtain ⟨mk,l,hg,hK⟩:=h
 refine ⟨_,hK,?_⟩
 clear hK
 refine Yfv ax tNq Tryz.func127 [.tmp 3] fun hcl hlt=>?_
 clear hlt
 have hcs:=ay (cs:=[.slice mk 1 (mvs l)]) hg
 by_cases h0:i<0
 ·have d1:decide (i<0)=true:=dtq h0
  have hv:sK l i=.b false:=by unfold sK;rw [if_pos h0]
  simp only [go_sem,hcs,d1,hv,gU]
  exact Z0
 ·have d1:decide (i<0)=false:=dfq h0
  by_cases h1:(l.length:Int)≤i
  ·have d2:decide ((l.length:Int)≤i)=true:=dtq h1
   have hv:sK l i=.b false:=by
    unfold sK;rw [if_neg h0,gEq,gNq (by omega)];rfl
   simp only [go_sem,hcs,d1,hv,gU,cM,d2]
   exact Z0
  ·have d2:decide ((l.length:Int)≤i)=false:=dfq h1
   have hi:i.toNat<l.length:=by omega
   have hv:sK l i=l.getD i.toNat (.b false):=by unfold sK;rw [if_neg h0]
   simp only [go_sem,hcs,d1,hv,cM,d2,MD hi]
   refine ⟨by omega,by rw [tY];exact Nat.one_pos,?_⟩
   simp only [tY,yau]
   generalize l.getD i.toNat (.b false)=r
   cases r<;>simp (disch:=first|exact Zd|omega) [↓zmk,beq,ybc,ybd,ybe,af,wk,wk2,wk1,wkM,wkL,aj,ybf,hcl,mAV,nAV]
theorem Nz {n:Nat} {m:Mark} {l:List Mv}:AV.lt n (.slice m 1 (mvs l))=∀ id,m=.own id→id<n:=by
 rw [AV.lt]
 refine propext ⟨fun h=>h.1,fun h=>⟨h,fun j hj=>?_⟩⟩
 simp only [mvs,List.getElem_map]
 exact Nt
theorem O2 {H:AHeap} (hcl:H.Closed) (k:Nat) (l:List Mv):((H.push (.cells [.slice (.own (H.nx+1)) 1 (mvs l)])).push (.buf 1 k)).Closed:=by
 have h1:=ai (i:=H.nx) (cs:=[.slice (.own (H.nx+1)) 1 (mvs l)]) (ag (a:=1) (b:=k) (ae (cs:=[]) hcl trivial)) (by
  simp only [znq,znr,and_true,zla]
  rw [Nz]
  intro id hi
  injection hi with hi
  omega)
 simp only [go_sem] at h1
 exact h1
theorem O0 {n f c:Nat} (h:c<n):AV.lt n (.func (.func f) [] [.ptr c 0]):=by
 rw [AV.lt]
 refine ⟨fun j hj=>absurd hj (by simp),fun j hj=>?_⟩
 have:j=0:=by simpa using hj
 subst this
 simpa [znj] using h
def okH (e:List (VN × Nat)) (t:List Nd):Prop:=t.length<100000∧∀ i (h:i<t.length),1≤t[i].op∧t[i].op≤16∧t[i].v<340282366920938463463374607431768211456∧(3<t[i].op→isN ((fV e t i).getD t[i].a (.b false)).num∧isN ((fV e t i).getD t[i].b (.b false)).num∧isN (((fV e t i).getD t[i].a (.b false)).num - ((fV e t i).getD t[i].b (.b false)).num))
def yE (e:List (VN × Nat)) (t:List Nd):Mv:=sK (fV e t t.length) ((t.length:Int) - 1)
def rH:List AV→AHeap→(AV→Prop)→Prop
 |[.slice _ 7 x,.slice _ 4 y],_,K=>∃ t e,(x=nds t∧y=aU e∧okH e t∧Ax e)∧K (.bool (yE e t).bo)
 |_,_,_=>False
theorem GA:EntOk Tryz.prog 55 (Ent.pure rH):=by
 refine Ype fun _ H K h=>?_
 unfold rH at h
 split at h
 rotate_left
 ·exact h.elim
 rename_i m x m2 y
 obtain ⟨t,e,⟨rfl,rfl,⟨ht,hn⟩,hb⟩,hK⟩:=h
 refine ⟨_,hK,?_⟩
 clear hK
 refine ACalls.fW ax (tCq Np (tCq A0 (tCq tA (tCq DT (tCq Ku (tCq vN (tCq w4 tNq))))))) Tryz.func55 [.tmp 4] (nrq _) (T:=av [(9,[[],[],[],[2],[],[],[2,3],[0,2,3],[0,2,3]]),(11,[[],[],[],[],[],[],[2,3],[0,2,3],[0,2,3]]),(13,[[],[],[],[1],[],[],[1,3],[0,1,3],[0,1,3]]),(7,[[],[],[],[],[],[],[5],[],[],[],[5,6,9],[2,5,6,9,10],[2,5,6,9,10,11],[0,2,5,6,9,10,11],[0,2,5,6,9,10,11]]),(3,[[1]])]) (h:=fun hcl hlt=>?_)
 have hm:∀ n',H.nx≤n'→AV.lt n' (.slice m 7 (nds t)):=fun n' hn=>AV.lt_mono hn _ (hlt (.slice m 7 (nds t)) (by simp))
 have hm2:∀ n',H.nx≤n'→AV.lt n' (.slice m2 4 (aU e)):=fun n' hn=>AV.lt_mono hn _ (hlt (.slice m2 4 (aU e)) (by simp))
 clear hlt
 have hF:∀ n',H.nx+1≤n'→AV.lt n' (.func (.func 127) [] [.ptr H.nx 0]):=fun n' hn=>O0 (by omega)
 have hcH:=fun k l=>O2 hcl k l
 simp only [go_sem]
 refine GP 5 0 1 (cs:=[AV.slice .nil 1 []]) rfl (by simp only [go_sem]) rfl ?_
 simp only [bhq,Nat.reduceMod,Nat.reduceDiv,aD,aE,aF,bf,aG,bc,aZ,bb,a9,yaq,yar,yao,yap,go_sem,aJ,List.set_cons_zero]
 refine az (A:=Nat) (fun k=>[(0,.slice m 7 (nds t)),(1,.slice m2 4 (aU e)),(5,.ptr H.nx 0),(6,.func (.func 127) [] [.ptr H.nx 0]),(10,.slice m 7 (nds t)),(11,.int .i64 (t.length:Int)),(12,.int .i64 (k:Int))])
  (fun k=>(H.push (.cells [.slice (.own (H.nx+1)) 1 (mvs (fV e t k))])).push (.buf 1 k)) (fun k=>k≤t.length) (fun k=>t.length - k) 0 (Nat.zero_le _) ?_ fun k hk=>?_
 ·exact Z52
 simp only [go_sem]
 refine au (fun hc=>?_) (fun hc=>?_)
 ·have hk1:k<t.length:=by simp at hc;omega
  have e5:=Yk5 k
  obtain ⟨o1,o2,hv1,hnum⟩:=hn k hk1
  have hvk:fV e t (k+1)=fV e t k++[jc e (fV e t k) t[k]]:=by
   rw [fV,show t.getD k default=t[k] by simp [gEq,hk1]]
  obtain ⟨L,hL⟩:∃ L,fV e t k=L:=⟨_,rfl⟩
  rw [hL] at hvk hnum
  have hLl:L.length=k:=by rw [← hL,mS]
  have hgk:=c7 hk1
  have hb1:t[k].v % 2^64<18446744073709551616:=Nat.mod_lt _ (by decide)
  have hz:((((t[k].v/2^64:Nat):Int)*2^64+((t[k].v % 2^64:Nat):Int):Int))=(t[k].v:Int):=by omega
  have hfo0:mvs L++[mAV (jc e L t[k])]=mvs (fV e t (k+1)):=by rw [hvk,Ec]
  rcases (by omega:t[k].op=1∨t[k].op=2∨t[k].op=3∨3<t[k].op) with c|c|c|c
  ·have d1:((t[k].op:Int)==1)=true:=by rw [c];rfl
   have hw:jc e L t[k]=.i t[k].v:=by unfold jc;rw [if_pos c]
   have hfo:=hfo0
   rw [hw,iE,nAV] at hfo
   simp only [go_sem,hL,aJ,hgk,d1,iNq,u6,hz,nAV]
   refine ⟨by omega,by omega,?_⟩
   exact Y55
  ·have d1:((t[k].op:Int)==1)=false:=by rw [c];rfl
   have d2:((t[k].op:Int)==2)=true:=by rw [c];rfl
   have hvq:(((t[k].v/2^64:Nat):Int)==0&&((t[k].v % 2^64:Nat):Int)==1)=decide (t[k].v=1):=by
    exact Y159
   have hw:jc e L t[k]=.b (decide (t[k].v=1)):=by unfold jc;rw [if_neg (by omega),if_pos c]
   have hfo:=hfo0
   rw [hw,gU] at hfo
   simp only [go_sem,hL,aJ,hgk,d1,d2,iNq,um,A7,BB,Bool.bne_false,Bool.and_true,hvq]
   refine ⟨by omega,?_⟩
   exact Y55
  ·have d1:((t[k].op:Int)==1)=false:=by rw [c];rfl
   have d2:((t[k].op:Int)==2)=false:=by rw [c];rfl
   have d3:((t[k].op:Int)==3)=true:=by rw [c];rfl
   have hw:jc e L t[k]=.i (k8 e (t[k].name,t[k].attr)):=by unfold jc;rw [if_neg (by omega),if_neg (by omega),if_pos c]
   have hfo:=hfo0
   rw [hw,iE,nAV] at hfo
   simp only [go_sem,hL,aJ,hgk,d1,d2,d3,iNq]
   refine ⟨by omega,t[k],e,⟨rfl,rfl,hb⟩,?_⟩
   simp only [go_sem,nAV]
   exact Y55
  ·have d1:((t[k].op:Int)==1)=false:=beq_eq_false_iff_ne.2 (by omega)
   have d2:((t[k].op:Int)==2)=false:=beq_eq_false_iff_ne.2 (by omega)
   have d3:((t[k].op:Int)==3)=false:=beq_eq_false_iff_ne.2 (by omega)
   have hw:jc e L t[k]=opV t[k].op (L.getD t[k].a (.b false)) (L.getD t[k].b (.b false)):=by unfold jc;rw [if_neg (by omega),if_neg (by omega),if_neg (by omega)]
   have hga:sK L (t[k].a:Int)=L.getD t[k].a (.b false):=by unfold sK;rw [if_neg (by omega),iNq]
   have hgb:sK L (t[k].b:Int)=L.getD t[k].b (.b false):=by unfold sK;rw [if_neg (by omega),iNq]
   obtain ⟨n1,n2,n3⟩:=hnum c
   have hfo:=hfo0
   rw [hw] at hfo
   simp only [go_sem,hL,aJ,hgk,d1,d2,d3,iNq]
   refine ⟨by omega,?_⟩
   refine ⟨_,L,by simp only [go_sem];rfl,?_⟩
   simp only [go_sem,hga,hgb]
   refine ⟨_,L,by simp only [go_sem];rfl,?_⟩
   simp only [go_sem,hga,hgb]
   refine ⟨t[k].op,_,_,⟨rfl,c,by omega,rfl,rfl,n1,n2,n3⟩,?_⟩
   simp only [go_sem,hga,hgb,tY,LB]
   refine ⟨⟨by rw [cM,hLl],by rw [cM];omega,by rw [cM];omega,fun z hz=>?_⟩,k+1,by omega,by omega,?_⟩
   ·rw [List.mem_singleton.1 hz];exact MF
   simp only [hfo,cM,hLl,e5]
   exact Z52
 ·have hk1:k=t.length:=by simp at hc;omega
  subst hk1
  have e6:IntKind.i64.wrap ((t.length:Int) - 1)=(t.length:Int) - 1:=by rw [wrap_i64]<;>omega
  simp only [go_sem,aJ,e6]
  refine ⟨_,fV e t t.length,by simp only [go_sem];rfl,?_⟩
  obtain ⟨R,hR⟩:∃ R,sK (fV e t t.length) ((t.length:Int) - 1)=R:=⟨_,rfl⟩
  rw [show yE e t=R from hR,hR]
  cases R with
  |i z =>
   simp only [go_sem,gU,iE,jF,jE,zif,eH,eI,Mv.bo]
   refine ⟨z,rfl,?_⟩
   exact Z53
  |b x =>
   simp only [go_sem,gU,iE,jF,jE,zif,eH,eI,Mv.bo]
   exact Z53
end Go.AL
