/- Lemmas of the proof; no condition. -/
import Derived.Test.YtjnhidpnfdbmaaaGreatS08i
import Derived.Test.YtjnhidpnfdbmaaaGreatLEval
set_option linter.all false
set_option maxRecDepth 10000
set_option maxHeartbeats 32000000
open List renaming length_cons → yaz, length_nil → yba, take_of_length_le → ybc, drop_append → ybd, take_append → ybe, drop_eq_nil_of_le → ybf, getD_cons_zero → yau, take_succ_cons → yaq, take_zero → yar, drop_succ_cons → yao, drop_zero → yap
open Go Go.AL Go.Proofs
namespace Go.AL
theorem nA:ti Tryz.prog 197=some ⟨.struct [(0,194,false)],3,24,.agg [.int .u64 0,.int .u64 0,.int .u64 0]⟩:=by kernel_rfl
theorem sF:ti Tryz.prog 190=some ⟨.bool,1,1,.bool false⟩:=by kernel_rfl
theorem Gg:ti Tryz.prog 189=some ⟨.iface 1,1,16,.nili⟩:=by kernel_rfl
theorem DC:ti Tryz.prog 187=some ⟨.slice 189,1,24,.slice .nil 1 []⟩:=by kernel_rfl
theorem E9:ti Tryz.prog 202=some ⟨.struct [(0,9,false),(1,9,false),(2,29,false)],4,48,.agg [.str [],.str [],.int .u64 0,.int .u64 0]⟩:=by kernel_rfl
theorem CV:ti Tryz.prog 145=some ⟨.slice 202,1,24,.slice .nil 1 []⟩:=by kernel_rfl
attribute [go_sem] nA sF Gg DC E9 CV
def mAV:Mv→AV
 |.i z=>.iface 197 (nAV z)
 |.b x=>.iface 190 (.bool x)
def xS (x:VN × Nat):AV:=.agg [.str x.1.1,.str x.1.2,.int .u64 ((x.2/2^64:Nat):Int),.int .u64 ((x.2 % 2^64:Nat):Int)]
def cz (l:List (VN × Nat)):List AV:=l.map xS
theorem bT {l:List (VN × Nat)}:(cz l).length=l.length:=by simp [cz]
theorem zd {l:List (VN × Nat)} {k:Nat} (h:k<l.length):(cz l).getD k .junk=.agg [.str l[k].1.1,.str l[k].1.2,.int .u64 ((l[k].2/2^64:Nat):Int),.int .u64 ((l[k].2 % 2^64:Nat):Int)]:=by
 simp [cz,xS,gEq,h]
theorem bd {n:Nat} {m:Mark} {l:List (VN × Nat)}:AV.lt n (.slice m 4 (cz l))=∀ id,m=.own id→id<n:=by
 rw [AV.lt]
 refine propext ⟨fun h=>h.1,fun h=>⟨h,fun j hj=>?_⟩⟩
 simp only [cz,List.getElem_map,xS]
 simp [znr,znu,znv,znh,znf]
def c7:List AV→AHeap→(AV→Prop)→Prop
 |[x],_,K=>∃ z,x=nAV z∧K (.bool false)
 |_,_,_=>False
theorem ux:EntOk Tryz.prog 257 (Ent.pure c7):=by
 refine Ype fun _ H K h=>?_
 unfold c7 at h
 split at h
 rotate_left
 ·exact h.elim
 obtain ⟨z,rfl,hK⟩:=h
 refine ⟨_,hK,?_⟩
 clear hK
 refine ACalls.fW au tNq Tryz.func257 [.tmp 2] (nrq _) (T:=aq []) (h:=fun hcl hlt=>?_)
 clear hlt
 simp only [go_sem,nAV]
 exact Z0
def c6:List AV→AHeap→(AV→Prop)→Prop
 |[.bool x],_,K=>K (.bool x)
 |_,_,_=>False
theorem uF:EntOk Tryz.prog 183 (Ent.pure c6):=by
 refine Ype fun _ H K h=>?_
 unfold c6 at h
 split at h
 rotate_left
 ·exact h.elim
 refine ⟨_,h,?_⟩
 clear h
 refine ACalls.fW au tNq Tryz.func183 [.tmp 2] (nrq _) (T:=aq []) (h:=fun hcl hlt=>?_)
 clear hlt
 simp only [go_sem]
 exact Z0
theorem za:nAV 0=.agg [.int .u64 0,.int .u64 0,.int .u64 0]:=by rfl
theorem sa:(190=197)=False:=eq_false (by decide)
def tU:List AV→AHeap→(AV→Prop)→Prop
 |[x],_,K=>∃ m,x=mAV m∧K (nAV m.num)
 |_,_,_=>False
theorem rt:EntOk Tryz.prog 154 (Ent.pure tU):=by
 refine Ype fun _ H K h=>?_
 unfold tU at h
 split at h
 rotate_left
 ·exact h.elim
 obtain ⟨m,rfl,hK⟩:=h
 refine ⟨_,hK,?_⟩
 clear hK
 cases m with
 |i z =>
  refine ACalls.fW au tNq Tryz.func154 [.cell 2 194] (nrq _) (T:=aq []) (h:=fun hcl hlt=>?_)
  clear hlt
  simp only [go_sem,mAV,Mv.num,fN,nA,if_true,nAV]
  exact Z0
 |b x =>
  refine ACalls.fW au tNq Tryz.func154 [.cell 2 194] (nrq _) (T:=aq []) (h:=fun hcl hlt=>?_)
  clear hlt
  simp only [go_sem,mAV,Mv.num,za,fN,nA,sa]
  exact Z0
def EQ (e:List (VN × Nat)):Prop:=e.length<4611686018427387904∧∀ x∈e,x.2<340282366920938463463374607431768211456
def vC:List AV→AHeap→(AV→Prop)→Prop
 |[x,.slice _ 4 y],_,K=>∃ n e,(x=qP n∧y=cz e∧EQ e)∧K (nAV (l7 e (n.name,n.attr)))
 |_,_,_=>False
theorem ov {y x:VN} {v:Nat} {l:List (VN × Nat)}:l7 ((y,v)::l) x=if y=x then (v:Int) else l7 l x:=rfl
theorem Ax:EntOk Tryz.prog 120 (Ent.pure vC):=by
 refine Ype fun _ H K h=>?_
 unfold vC at h
 split at h
 rotate_left
 ·exact h.elim
 rename_i x m y
 obtain ⟨n,e,⟨rfl,rfl,hl,hv⟩,hK⟩:=h
 obtain ⟨Q,hQ⟩:∃ Q,l7 e (n.name,n.attr)=Q:=⟨_,rfl⟩
 rw [hQ] at hK
 refine ⟨_,hK,?_⟩
 clear hK
 refine ACalls.fW au (tCq zy (tCq GV tNq)) Tryz.func120 [.cell 4 194] (nrq _) (T:=aq []) (h:=fun hcl hlt=>?_)
 have hm:∀ n',H.nx≤n'→AV.lt n' (.slice m 4 (cz e)):=fun n' hn=>AV.lt_mono hn _ (hlt (.slice m 4 (cz e)) (by simp))
 clear hlt
 simp only [go_sem,qP,bT]
 refine az (A:=Nat) (fun j=>[(2,.ptr H.nx 0),(4,.ptr (H.nx+1) 0),(7,.slice m 4 (cz e)),(8,.int .i64 (e.length:Int)),(9,.int .i64 (j:Int))])
  (fun _=>(H.push (.cells [.int .i64 (n.op:Int),.int .i64 (n.a:Int),.int .i64 (n.b:Int),.str n.name,.str n.attr,.int .u64 ((n.v/2^64:Nat):Int),.int .u64 ((n.v % 2^64:Nat):Int)])).push (.cells [.int .u64 0,.int .u64 0,.int .u64 0])) (fun j=>j≤e.length∧l7 (e.drop j) (n.name,n.attr)=Q) (fun j=>e.length - j) 0 ⟨Nat.zero_le _,hQ⟩ ?_ fun j hj=>?_
 ·exact Z24
 obtain ⟨hj,hq⟩:=hj
 simp only [go_sem]
 refine ai (fun hc=>?_) (fun hc=>?_)
 ·have hj1:j<e.length:=by simp at hc;omega
  have e5:IntKind.i64.wrap ((j:Int)+1)=((j+1:Nat):Int):=by rw [wrap_i64]<;>omega
  have hne:(H.nx=H.nx+2)=False:=eq_false (by omega)
  have hv1:e[j].2<340282366920938463463374607431768211456:=hv e[j] (gMq hj1)
  rw [dcq hj1] at hq
  have hz:((((e[j].2/2^64:Nat):Int)*2^64+((e[j].2 % 2^64:Nat):Int):Int))=(e[j].2:Int):=by omega
  simp only [go_sem,bT,zd hj1,iNq,hne,e5]
  refine ⟨by omega,fun h1=>?_,fun h1=>?_⟩
  ·cases h2:(e[j].1.2==n.attr)
   ·have hx:¬ (e[j].1=(n.name,n.attr)):=fun h=>by rw [h] at h2;simp at h2
    rw [show e[j]=(e[j].1,e[j].2) from rfl,ov,if_neg hx] at hq
    simp only [go_sem,h2]
    refine ⟨j+1,⟨by omega,hq⟩,by omega,?_⟩
    exact Z24
   ·have hx:e[j].1=(n.name,n.attr):=Prod.ext (eq_of_beq h1) (eq_of_beq h2)
    rw [show e[j]=(e[j].1,e[j].2) from rfl,ov,if_pos hx] at hq
    subst hq
    simp only [go_sem,h2,sD,hz,nAV]
    refine ⟨by omega,?_⟩
    exact Z0
  ·have hx:¬ (e[j].1=(n.name,n.attr)):=fun h=>by rw [h] at h1;simp at h1
   rw [show e[j]=(e[j].1,e[j].2) from rfl,ov,if_neg hx] at hq
   refine ⟨j+1,⟨by omega,hq⟩,by omega,?_⟩
   exact Z24
 ·have hj1:j=e.length:=by simp at hc;omega
  subst hj1
  rw [List.drop_length] at hq
  have hq':0=Q:=hq
  subst hq'
  simp only [go_sem,Cv,za]
  refine ⟨by omega,?_⟩
  exact Z0
theorem sG {a b:Int}:decide (lU a b<0)=decide (a<b):=by unfold lU;split<;>(try split)<;>simp<;>omega
theorem sC {a b:Int}:decide (lU a b≤0)=decide (a≤b):=by unfold lU;split<;>(try split)<;>simp<;>omega
theorem sn {a b:Int}:decide (0<lU a b)=decide (b<a):=by unfold lU;split<;>(try split)<;>simp<;>omega
theorem sb {a b:Int}:decide (0≤lU a b)=decide (b≤a):=by unfold lU;split<;>(try split)<;>simp<;>omega
def oq (op:Nat) (a b:Int):Option Mv :=
 if op=4 then some (.i (-a)) else if op=6 then some (.i (a+b)) else if op=7 then some (.i (a - b))
 else if op=10 then some (.b (decide (a<b))) else if op=11 then some (.b (decide (a≤b))) else if op=12 then some (.b (decide (b<a))) else if op=13 then some (.b (decide (b≤a))) else none
def sS:Option Mv→AV
 |some m=>.tup [mAV m,.bool true]
 |none=>.tup [.nili,.bool false]
def A7:List AV→AHeap→(AV→Prop)→Prop
 |[.int .i64 z,x,y],_,K=>∃ op a b,(z=((op:Nat):Int)∧op<100∧x=nAV a∧y=nAV b∧isN a∧isN b∧isN (a - b))∧K (sS (oq op a b))
 |_,_,_=>False
theorem Ji:EntOk Tryz.prog 153 (Ent.pure A7):=by
 refine Ype fun _ H K h=>?_
 unfold A7 at h
 split at h
 rotate_left
 ·exact h.elim
 rename_i z x y
 obtain ⟨op,a,b,⟨rfl,ho,rfl,rfl,ha,hb,hc⟩,hK⟩:=h
 refine ⟨_,hK,?_⟩
 clear hK
 refine ACalls.fW au (tCq Bx (tCq xm (tCq BB (tCq zc tNq)))) Tryz.func153 [.tmp 6,.tmp 7] (nrq _) (T:=aq []) (h:=fun hcl hlt=>?_)
 clear hlt
 rcases (by omega:op=4∨op=6∨op=7∨op=10∨op=11∨op=12∨op=13∨(op≠4∧op≠6∧op≠7∧op≠10∧op≠11∧op≠12∧op≠13)) with h|h|h|h|h|h|h|h
 ·have hi:(op:Int)=4:=by omega
  have hs:oq op a b=some (.i (-a)):=by subst h;rfl
  simp only [go_sem,nAV,hs,sS,mAV,Ba,hi,Int.reduceBEq]
  refine ⟨a,rfl,?_⟩
  exact Z0
 ·have hi:(op:Int)=6:=by omega
  have hs:oq op a b=some (.i (a+b)):=by subst h;rfl
  simp only [go_sem,nAV,hs,sS,mAV,wX,hi,Int.reduceBEq]
  refine ⟨a,b,⟨rfl,rfl⟩,?_⟩
  exact Z0
 ·have hi:(op:Int)=7:=by omega
  have hs:oq op a b=some (.i (a - b)):=by subst h;rfl
  simp only [go_sem,nAV,hs,sS,mAV,wY,hi,Int.reduceBEq]
  refine ⟨a,b,⟨rfl,rfl⟩,?_⟩
  exact Z0
 ·have hi:(op:Int)=10:=by omega
  have hs:oq op a b=some (.b (decide (a<b))):=by subst h;rfl
  simp only [go_sem,nAV,hs,sS,mAV,iA,hi,Int.reduceBEq]
  refine ⟨a,b,⟨rfl,rfl,ha,hb,hc⟩,?_⟩
  simp only [go_sem,nAV,sG,sC,sn,sb]
  exact Z0
 ·have hi:(op:Int)=11:=by omega
  have hs:oq op a b=some (.b (decide (a≤b))):=by subst h;rfl
  simp only [go_sem,nAV,hs,sS,mAV,iA,hi,Int.reduceBEq]
  refine ⟨a,b,⟨rfl,rfl,ha,hb,hc⟩,?_⟩
  simp only [go_sem,nAV,sG,sC,sn,sb]
  exact Z0
 ·have hi:(op:Int)=12:=by omega
  have hs:oq op a b=some (.b (decide (b<a))):=by subst h;rfl
  simp only [go_sem,nAV,hs,sS,mAV,iA,hi,Int.reduceBEq]
  refine ⟨a,b,⟨rfl,rfl,ha,hb,hc⟩,?_⟩
  simp only [go_sem,nAV,sG,sC,sn,sb]
  exact Z0
 ·have hi:(op:Int)=13:=by omega
  have hs:oq op a b=some (.b (decide (b≤a))):=by subst h;rfl
  simp only [go_sem,nAV,hs,sS,mAV,iA,hi,Int.reduceBEq]
  refine ⟨a,b,⟨rfl,rfl,ha,hb,hc⟩,?_⟩
  simp only [go_sem,nAV,sG,sC,sn,sb]
  exact Z0
 ·obtain ⟨h1,h2,h3,h4,h5,h6,h7⟩:=h
  have d1:((op:Int)==4)=false:=beq_eq_false_iff_ne.2 (by omega)
  have d2:((op:Int)==6)=false:=beq_eq_false_iff_ne.2 (by omega)
  have d3:((op:Int)==7)=false:=beq_eq_false_iff_ne.2 (by omega)
  have d4:((op:Int)==10)=false:=beq_eq_false_iff_ne.2 (by omega)
  have d5:((op:Int)==11)=false:=beq_eq_false_iff_ne.2 (by omega)
  have d6:((op:Int)==12)=false:=beq_eq_false_iff_ne.2 (by omega)
  have d7:((op:Int)==13)=false:=beq_eq_false_iff_ne.2 (by omega)
  have hs:oq op a b=none:=by simp [oq,h1,h2,h3,h4,h5,h6,h7]
  simp only [go_sem,nAV,hs,sS,d1,d2,d3,d4,d5,d6,d7]
  exact Z0
theorem gf {z:Int}:mAV (.i z)=.iface 197 (nAV z):=rfl
theorem fC {x:Bool}:mAV (.b x)=.iface 190 (.bool x):=rfl
def y5:List AV→AHeap→(AV→Prop)→Prop
 |[x,y],_,K=>∃ a b,(x=mAV a∧y=mAV b∧isN a.num∧isN b.num)∧K (.bool (mEq a b))
 |_,_,_=>False
theorem Mi : mth Tryz.prog 197 "matchguard/eval.holds" = some 257 := by kernel_rfl
theorem M8 : mth Tryz.prog 190 "matchguard/eval.holds" = some 183 := by kernel_rfl
theorem ij {v : AV} : CI Tryz.prog "matchguard/eval.holds" (.iface 197 v) = .func (.func 257) [] [] := tT Mi
theorem im {v : AV} : CI Tryz.prog "matchguard/eval.holds" (.iface 190 v) = .func (.func 183) [] [] := tT M8
theorem Dm:EntOk Tryz.prog 155 (Ent.pure y5):=by
 refine Ype fun _ H K h=>?_
 unfold y5 at h
 split at h
 rotate_left
 ·exact h.elim
 rename_i x y
 obtain ⟨a,b,⟨rfl,rfl,ha,hb⟩,hK⟩:=h
 refine ⟨_,hK,?_⟩
 clear hK
 refine ACalls.fW au (tCq rt (tCq uF (tCq ux tNq))) Tryz.func155 [.tmp 4] (nrq _) (T:=aq []) (h:=fun hcl hlt=>?_)
 clear hlt
 cases a with
 |i z =>
  have hq:((w0 z==w0 b.num)&&((w1 z==w1 b.num)&&(w2 z==w2 b.num)))=decide (z=b.num):=Na ha hb
  have hz:mEq (.i z) b=decide (z=b.num):=rfl
  simp only [go_sem,gf,fN,nA,sF,sa,if_true,nAV,hz]
  refine ⟨b,rfl,?_⟩
  simp only [go_sem,nAV,I3,JT,hq,Bool.bne_false]
  exact Z0
 |b x =>
  cases b with
  |i z =>
   simp only [go_sem,gf,fC,fN,nA,sF,sa,if_true,nAV,mEq,Mv.bo,ij,im,zij,c6,c7,Bool.bne_false]
   refine ⟨z,rfl,?_⟩
   exact Z0
  |b y =>
   simp only [go_sem,gf,fC,fN,nA,sF,sa,if_true,nAV,mEq,Mv.bo,ij,im,zij,c6,c7,Bool.bne_false]
   exact Z0
theorem IR {op:Nat} {a b v:Mv} (h:oq op a.num b.num=some v):opV op a b=v:=by
 unfold oq at h;unfold opV
 repeat' split at h
 all_goals first|(cases h;simp_all;done)|(cases h)
def Bw:List AV→AHeap→(AV→Prop)→Prop
 |[.int .i64 z,x,y],_,K=>∃ op a b,(z=((op:Nat):Int)∧3<op∧op<100∧x=mAV a∧y=mAV b∧isN a.num∧isN b.num∧isN (a.num - b.num))∧K (mAV (opV op a b))
 |_,_,_=>False
theorem G6 {op:Nat} {a b:Int} (h:oq op a b=none):op≠4∧op≠6∧op≠7∧op≠10∧op≠11∧op≠12∧op≠13:=by
 unfold oq at h
 repeat' split at h
 all_goals first|(cases h;done)|omega
theorem EP:EntOk Tryz.prog 121 (Ent.pure Bw):=by
 refine Ype fun _ H K h=>?_
 unfold Bw at h
 split at h
 rotate_left
 ·exact h.elim
 rename_i z x y
 obtain ⟨op,a,b,⟨rfl,h3,ho,rfl,rfl,ha,hb,hc⟩,hK⟩:=h
 refine ⟨_,hK,?_⟩
 clear hK
 refine ACalls.fW au (tCq rt (tCq Ji (tCq Dm (tCq uF (tCq ux tNq))))) Tryz.func121 [.tmp 6] (nrq _) (T:=aq []) (h:=fun hcl hlt=>?_)
 clear hlt
 simp only [go_sem]
 refine ⟨a,rfl,?_⟩
 simp only [go_sem]
 refine ⟨b,rfl,?_⟩
 simp only [go_sem,A7]
 refine ⟨op,a.num,b.num,⟨rfl,ho,rfl,rfl,ha,hb,hc⟩,?_⟩
 cases hs:oq op a.num b.num with
 |some v =>
  have hv:=IR hs
  simp only [go_sem,sS,hv]
  cases v<;>simp (disch:=first|exact Zd|omega) [↓zmo,beq,ybc,ybd,ybe,ae,wk,wk2,wk1,wkM,wkL,ah,ybf,hcl,mAV,nAV]
 |none =>
  obtain ⟨h4,h6,h7,h10,h11,h12,h13⟩:=G6 hs
  simp only [go_sem,sS]
  rcases (by omega:op=8∨op=9∨op=5∨op=14∨op=15∨(op≠8∧op≠9∧op≠5∧op≠14∧op≠15)) with h|h|h|h|h|h
  ·have hi:(op:Int)=8:=by omega
   have hv:opV op a b=.b (mEq a b):=by subst h;rfl
   simp only [go_sem,hi,Int.reduceBEq,hv,fC]
   refine ⟨a,b,⟨rfl,rfl,ha,hb⟩,?_⟩
   simp only [go_sem]
   exact Z0
  ·have hi:(op:Int)=9:=by omega
   have hv:opV op a b=.b (!mEq a b):=by subst h;rfl
   simp only [go_sem,hi,Int.reduceBEq,hv,fC]
   refine ⟨a,b,⟨rfl,rfl,ha,hb⟩,?_⟩
   simp only [go_sem]
   exact Z0
  ·have hi:(op:Int)=5:=by omega
   have hv:opV op a b=.b (!a.bo):=by subst h;rfl
   rw [hv]
   cases a with
   |i z =>
    simp only [go_sem,hi,Int.reduceBEq,fC,gf,ij,im,zij,c6,c7,Mv.bo]
    refine ⟨z,rfl,?_⟩
    exact Z0
   |b x =>
    simp only [go_sem,hi,Int.reduceBEq,fC,gf,ij,im,zij,c6,c7,Mv.bo]
    exact Z0
  ·have hi:(op:Int)=14:=by omega
   have hv:opV op a b=.b (a.bo&&b.bo):=by subst h;rfl
   rw [hv]
   cases a with
   |i z =>
    cases b with
    |i w =>
     simp only [go_sem,hi,Int.reduceBEq,fC,gf,ij,im,zij,c6,c7,Mv.bo]
     refine ⟨z,rfl,?_⟩
     exact Z0
    |b y =>
     simp only [go_sem,hi,Int.reduceBEq,fC,gf,ij,im,zij,c6,c7,Mv.bo]
     refine ⟨z,rfl,?_⟩
     exact Z0
   |b x =>
    cases b with
    |i w =>
     simp only [go_sem,hi,Int.reduceBEq,fC,gf,ij,im,zij,c6,c7,Mv.bo]
     refine ⟨fun hx=>⟨w,rfl,?_⟩,fun hx=>?_⟩<;>simp (disch:=first|exact Zd|omega) [↓zmo,beq,ybc,ybd,ybe,ae,wk,wk2,wk1,wkM,wkL,ah,ybf,hcl,hx]
    |b y =>
     simp only [go_sem,hi,Int.reduceBEq,fC,gf,ij,im,zij,c6,c7,Mv.bo]
     refine ⟨fun hx=>?_,fun hx=>?_⟩<;>simp (disch:=first|exact Zd|omega) [↓zmo,beq,ybc,ybd,ybe,ae,wk,wk2,wk1,wkM,wkL,ah,ybf,hcl,hx]
  ·have hi:(op:Int)=15:=by omega
   have hv:opV op a b=.b (a.bo||b.bo):=by subst h;rfl
   rw [hv]
   cases a with
   |i z =>
    cases b with
    |i w =>
     simp only [go_sem,hi,Int.reduceBEq,fC,gf,ij,im,zij,c6,c7,Mv.bo]
     refine ⟨z,rfl,w,rfl,?_⟩
     exact Z0
    |b y =>
     simp only [go_sem,hi,Int.reduceBEq,fC,gf,ij,im,zij,c6,c7,Mv.bo]
     refine ⟨z,rfl,?_⟩
     exact Z0
   |b x =>
    cases b with
    |i w =>
     simp only [go_sem,hi,Int.reduceBEq,fC,gf,ij,im,zij,c6,c7,Mv.bo]
     refine ⟨fun hx=>?_,fun hx=>⟨w,rfl,?_⟩⟩<;>simp (disch:=first|exact Zd|omega) [↓zmo,beq,ybc,ybd,ybe,ae,wk,wk2,wk1,wkM,wkL,ah,ybf,hcl,hx]
    |b y =>
     simp only [go_sem,hi,Int.reduceBEq,fC,gf,ij,im,zij,c6,c7,Mv.bo]
     refine ⟨fun hx=>?_,fun hx=>?_⟩<;>simp (disch:=first|exact Zd|omega) [↓zmo,beq,ybc,ybd,ybe,ae,wk,wk2,wk1,wkM,wkL,ah,ybf,hcl,hx]
  ·obtain ⟨x1,x2,x3,x4,x5⟩:=h
   have d1:((op:Int)==8)=false:=beq_eq_false_iff_ne.2 (by omega)
   have d2:((op:Int)==9)=false:=beq_eq_false_iff_ne.2 (by omega)
   have d3:((op:Int)==5)=false:=beq_eq_false_iff_ne.2 (by omega)
   have d4:((op:Int)==14)=false:=beq_eq_false_iff_ne.2 (by omega)
   have d5:((op:Int)==15)=false:=beq_eq_false_iff_ne.2 (by omega)
   have hv:opV op a b=.b (!a.bo||b.bo):=by simp [opV,h4,h6,h7,h10,h11,h12,h13,x1,x2,x3,x4,x5]
   rw [hv]
   cases a with
   |i z =>
    cases b with
    |i w =>
     simp only [go_sem,d1,d2,d3,d4,d5,fC,gf,ij,im,zij,c6,c7,Mv.bo]
     refine ⟨z,rfl,?_⟩
     exact Z0
    |b y =>
     simp only [go_sem,d1,d2,d3,d4,d5,fC,gf,ij,im,zij,c6,c7,Mv.bo]
     refine ⟨z,rfl,?_⟩
     exact Z0
   |b x =>
    cases b with
    |i w =>
     simp only [go_sem,d1,d2,d3,d4,d5,fC,gf,ij,im,zij,c6,c7,Mv.bo]
     refine ⟨fun hx=>?_,fun hx=>⟨w,rfl,?_⟩⟩<;>simp (disch:=first|exact Zd|omega) [↓zmo,beq,ybc,ybd,ybe,ae,wk,wk2,wk1,wkM,wkL,ah,ybf,hcl,hx]
    |b y =>
     simp only [go_sem,d1,d2,d3,d4,d5,fC,gf,ij,im,zij,c6,c7,Mv.bo]
     refine ⟨fun hx=>?_,fun hx=>?_⟩<;>simp (disch:=first|exact Zd|omega) [↓zmo,beq,ybc,ybd,ybe,ae,wk,wk2,wk1,wkM,wkL,ah,ybf,hcl,hx]
theorem Cn:ti Tryz.prog 29=some ⟨.struct [(0,27,false),(1,27,false)],2,16,.agg [.int .u64 0,.int .u64 0]⟩:=by kernel_rfl
attribute [go_sem] Cn
theorem Gl {a b c d:Int}:teq Tryz.prog 9 29 (.agg [.int .u64 a,.int .u64 b]) (.agg [.int .u64 c,.int .u64 d])=some ((a==c)&&((b==d)&&true)):=by
 have g1:Tryz.prog.stoodInHeld 29=false:=by kernel_rfl
 simp [Cn,teq,teq.go,teq.part,sy,ceq,g1,TD.agg]
theorem HV:Tryz.prog.eqGuardType Tryz.prog.depth 29=false:=by kernel_rfl
def mvs (l:List Mv):List AV:=l.map mAV
theorem cj {l:List Mv}:(mvs l).length=l.length:=by simp [mvs]
theorem Jf {l:List Mv} {k:Nat} (h:k<l.length):(mvs l).getD k .junk=mAV (l.getD k (.b false)):=by
 simp [mvs,gEq,h]
theorem zC {l:List Mv} {m:Mv}:mvs l++[mAV m]=mvs (l++[m]):=by simp [mvs]
theorem Lj {n:Nat} {m:Mv}:AV.lt n (mAV m):=by cases m<;>simp [mAV,nAV,znq,znr,znu,znv,znf,zng]
theorem qV {m:Mv}:(mAV m).cells=[mAV m]:=by cases m<;>rfl
theorem Id {m:Mv}:(mAV m).one=true:=by cases m<;>rfl
theorem J2 {m:Mv}:bf (mAV m).cells=true:=by cases m<;>rfl
def pT (l:List Mv) (i:Int):Mv:=if i<0 then .b false else l.getD i.toNat (.b false)
def Kc:List AV→AHeap→(AV→Prop)→Prop
 |[.int .i64 i,.ptr c 0],H,K=>∃ mk l,H.get c=some (.cells [.slice mk 1 (mvs l)])∧K (mAV (pT l i))
 |_,_,_=>False
theorem Ly:EntOk Tryz.prog 118 (Ent.pure Kc):=by
 refine Ype fun _ H K h=>?_
 unfold Kc at h
 split at h
 rotate_left
 ·exact h.elim
 rename_i i c
 obtain ⟨mk,l,hg,hK⟩:=h
 refine ⟨_,hK,?_⟩
 clear hK
 refine ACalls.fW au tNq Tryz.func118 [.tmp 3] (nrq _) (T:=aq []) (h:=fun hcl hlt=>?_)
 clear hlt
 have hcs:=ax (cs:=[.slice mk 1 (mvs l)]) hg
 by_cases h0:i<0
 ·have d1:decide (i<0)=true:=dtq h0
  have hv:pT l i=.b false:=by unfold pT;rw [if_pos h0]
  simp only [go_sem,hcs,d1,hv,fC]
  exact Z0
 ·have d1:decide (i<0)=false:=dfq h0
  by_cases h1:(l.length:Int)≤i
  ·have d2:decide ((l.length:Int)≤i)=true:=dtq h1
   have hv:pT l i=.b false:=by
    unfold pT;rw [if_neg h0,gEq,gNq (by omega)];rfl
   simp only [go_sem,hcs,d1,hv,fC,cj,d2]
   exact Z0
  ·have d2:decide ((l.length:Int)≤i)=false:=dfq h1
   have hi:i.toNat<l.length:=by omega
   have hv:pT l i=l.getD i.toNat (.b false):=by unfold pT;rw [if_neg h0]
   simp only [go_sem,hcs,d1,hv,cj,d2,Jf hi]
   refine ⟨by omega,by rw [qV];exact Nat.one_pos,?_⟩
   simp only [qV,yau]
   generalize l.getD i.toNat (.b false)=r
   cases r<;>simp (disch:=first|exact Zd|omega) [↓zmo,beq,ybc,ybd,ybe,ae,wk,wk2,wk1,wkM,wkL,ah,ybf,hcl,mAV,nAV]
theorem LE {n:Nat} {m:Mark} {l:List Mv}:AV.lt n (.slice m 1 (mvs l))=∀ id,m=.own id→id<n:=by
 rw [AV.lt]
 refine propext ⟨fun h=>h.1,fun h=>⟨h,fun j hj=>?_⟩⟩
 simp only [mvs,List.getElem_map]
 exact Lj
theorem NQ {H:AHeap} (hcl:H.Closed) (k:Nat) (l:List Mv):((H.push (.cells [.slice (.own (H.nx+1)) 1 (mvs l)])).push (.buf 1 k)).Closed:=by
 have h1:=aj (i:=H.nx) (cs:=[.slice (.own (H.nx+1)) 1 (mvs l)]) (ag (a:=1) (b:=k) (aa (cs:=[]) hcl trivial)) (by
  simp only [znu,znv,and_true,zle]
  rw [LE]
  intro id hi
  injection hi with hi
  omega)
 simp only [go_sem] at h1
 exact h1
theorem NH {n f c:Nat} (h:c<n):AV.lt n (.func (.func f) [] [.ptr c 0]):=by
 rw [AV.lt]
 refine ⟨fun j hj=>absurd hj (by simp),fun j hj=>?_⟩
 have:j=0:=by simpa using hj
 subst this
 simpa [znn] using h
def okH (e:List (VN × Nat)) (t:List Nd):Prop:=t.length<100000∧∀ i (h:i<t.length),1≤t[i].op∧t[i].op≤16∧t[i].v<340282366920938463463374607431768211456∧(3<t[i].op→isN ((fe e t i).getD t[i].a (.b false)).num∧isN ((fe e t i).getD t[i].b (.b false)).num∧isN (((fe e t i).getD t[i].a (.b false)).num - ((fe e t i).getD t[i].b (.b false)).num))
def wl (e:List (VN × Nat)) (t:List Nd):Mv:=pT (fe e t t.length) ((t.length:Int) - 1)
def po:List AV→AHeap→(AV→Prop)→Prop
 |[.slice _ 7 x,.slice _ 4 y],_,K=>∃ t e,(x=nds t∧y=cz e∧okH e t∧EQ e)∧K (.bool (wl e t).bo)
 |_,_,_=>False
theorem CX:EntOk Tryz.prog 80 (Ent.pure po):=by
 refine Ype fun _ H K h=>?_
 unfold po at h
 split at h
 rotate_left
 ·exact h.elim
 rename_i m x m2 y
 obtain ⟨t,e,⟨rfl,rfl,⟨ht,hn⟩,hb⟩,hK⟩:=h
 refine ⟨_,hK,?_⟩
 clear hK
 refine ACalls.fW au (tCq Ly (tCq zy (tCq qt (tCq Ax (tCq EP (tCq uF (tCq ux tNq))))))) Tryz.func80 [.tmp 4] (nrq _) (T:=aq [(9,[[],[],[],[2],[],[],[2,3],[0,2,3],[0,2,3]]),(11,[[],[],[],[],[],[],[2,3],[0,2,3],[0,2,3]]),(13,[[],[],[],[1],[],[],[1,3],[0,1,3],[0,1,3]]),(7,[[],[],[],[],[],[],[5],[],[],[],[5,6,9],[2,5,6,9,10],[2,5,6,9,10,11],[0,2,5,6,9,10,11],[0,2,5,6,9,10,11]]),(3,[[1]])]) (h:=fun hcl hlt=>?_)
 have hm:∀ n',H.nx≤n'→AV.lt n' (.slice m 7 (nds t)):=fun n' hn=>AV.lt_mono hn _ (hlt (.slice m 7 (nds t)) (by simp))
 have hm2:∀ n',H.nx≤n'→AV.lt n' (.slice m2 4 (cz e)):=fun n' hn=>AV.lt_mono hn _ (hlt (.slice m2 4 (cz e)) (by simp))
 clear hlt
 have hF:∀ n',H.nx+1≤n'→AV.lt n' (.func (.func 118) [] [.ptr H.nx 0]):=fun n' hn=>NH (by omega)
 have hcH:=fun k l=>NQ hcl k l
 simp only [go_sem]
 refine Do 5 0 1 (cs:=[AV.slice .nil 1 []]) rfl (by simp only [go_sem]) rfl ?_
 simp only [bhq,Nat.reduceMod,Nat.reduceDiv,aC,aB,aE,aS,aD,aR,aO,aP,aQ,yaq,yar,yao,yap,go_sem,a9,List.set_cons_zero]
 refine az (A:=Nat) (fun k=>[(0,.slice m 7 (nds t)),(1,.slice m2 4 (cz e)),(5,.ptr H.nx 0),(6,.func (.func 118) [] [.ptr H.nx 0]),(10,.slice m 7 (nds t)),(11,.int .i64 (t.length:Int)),(12,.int .i64 (k:Int))])
  (fun k=>(H.push (.cells [.slice (.own (H.nx+1)) 1 (mvs (fe e t k))])).push (.buf 1 k)) (fun k=>k≤t.length) (fun k=>t.length - k) 0 (Nat.zero_le _) ?_ fun k hk=>?_
 ·exact Z25
 simp only [go_sem]
 refine ai (fun hc=>?_) (fun hc=>?_)
 ·have hk1:k<t.length:=by simp at hc;omega
  have e5:=Yk5 k
  obtain ⟨o1,o2,hv1,hnum⟩:=hn k hk1
  have hvk:fe e t (k+1)=fe e t k++[kj e (fe e t k) t[k]]:=by
   rw [fe,show t.getD k default=t[k] by simp [gEq,hk1]]
  obtain ⟨L,hL⟩:∃ L,fe e t k=L:=⟨_,rfl⟩
  rw [hL] at hvk hnum
  have hLl:L.length=k:=by rw [← hL,ld]
  have hgk:=fQ hk1
  have hb1:t[k].v % 2^64<18446744073709551616:=Nat.mod_lt _ (by decide)
  have hz:((((t[k].v/2^64:Nat):Int)*2^64+((t[k].v % 2^64:Nat):Int):Int))=(t[k].v:Int):=by omega
  have hfo0:mvs L++[mAV (kj e L t[k])]=mvs (fe e t (k+1)):=by rw [hvk,zC]
  rcases (by omega:t[k].op=1∨t[k].op=2∨t[k].op=3∨3<t[k].op) with c|c|c|c
  ·have d1:((t[k].op:Int)==1)=true:=by rw [c];rfl
   have hw:kj e L t[k]=.i t[k].v:=by unfold kj;rw [if_pos c]
   have hfo:=hfo0
   rw [hw,gf,nAV] at hfo
   simp only [go_sem,hL,a9,hgk,d1,iNq,sD,hz,nAV]
   refine ⟨by omega,by omega,?_⟩
   refine ⟨⟨by rw [cj,hLl],by rw [cj];omega,by rw [cj];omega,fun z hz=>?_⟩,k+1,by omega,by omega,?_⟩
   ·rw [List.mem_singleton.1 hz];rfl
   simp only [hfo,cj,hLl,e5]
   exact Z25
  ·have d1:((t[k].op:Int)==1)=false:=by rw [c];rfl
   have d2:((t[k].op:Int)==2)=true:=by rw [c];rfl
   have hvq:(((t[k].v/2^64:Nat):Int)==0&&((t[k].v % 2^64:Nat):Int)==1)=decide (t[k].v=1):=by
    rw [Bool.eq_iff_iff];simp only [Bool.and_eq_true,beq_iff_eq,decide_eq_true_eq];omega
   have hw:kj e L t[k]=.b (decide (t[k].v=1)):=by unfold kj;rw [if_neg (by omega),if_pos c]
   have hfo:=hfo0
   rw [hw,fC] at hfo
   simp only [go_sem,hL,a9,hgk,d1,d2,iNq,rA,Gl,HV,Bool.bne_false,Bool.and_true,hvq]
   refine ⟨by omega,?_⟩
   refine ⟨⟨by rw [cj,hLl],by rw [cj];omega,by rw [cj];omega,fun z hz=>?_⟩,k+1,by omega,by omega,?_⟩
   ·rw [List.mem_singleton.1 hz];rfl
   simp only [hfo,cj,hLl,e5]
   exact Z25
  ·have d1:((t[k].op:Int)==1)=false:=by rw [c];rfl
   have d2:((t[k].op:Int)==2)=false:=by rw [c];rfl
   have d3:((t[k].op:Int)==3)=true:=by rw [c];rfl
   have hw:kj e L t[k]=.i (l7 e (t[k].name,t[k].attr)):=by unfold kj;rw [if_neg (by omega),if_neg (by omega),if_pos c]
   have hfo:=hfo0
   rw [hw,gf,nAV] at hfo
   simp only [go_sem,hL,a9,hgk,d1,d2,d3,iNq]
   refine ⟨by omega,t[k],e,⟨rfl,rfl,hb⟩,?_⟩
   simp only [go_sem,nAV]
   refine ⟨⟨by rw [cj,hLl],by rw [cj];omega,by rw [cj];omega,fun z hz=>?_⟩,k+1,by omega,by omega,?_⟩
   ·rw [List.mem_singleton.1 hz];rfl
   simp only [hfo,cj,hLl,e5]
   exact Z25
  ·have d1:((t[k].op:Int)==1)=false:=beq_eq_false_iff_ne.2 (by omega)
   have d2:((t[k].op:Int)==2)=false:=beq_eq_false_iff_ne.2 (by omega)
   have d3:((t[k].op:Int)==3)=false:=beq_eq_false_iff_ne.2 (by omega)
   have hw:kj e L t[k]=opV t[k].op (L.getD t[k].a (.b false)) (L.getD t[k].b (.b false)):=by unfold kj;rw [if_neg (by omega),if_neg (by omega),if_neg (by omega)]
   have hga:pT L (t[k].a:Int)=L.getD t[k].a (.b false):=by unfold pT;rw [if_neg (by omega),iNq]
   have hgb:pT L (t[k].b:Int)=L.getD t[k].b (.b false):=by unfold pT;rw [if_neg (by omega),iNq]
   obtain ⟨n1,n2,n3⟩:=hnum c
   have hfo:=hfo0
   rw [hw] at hfo
   simp only [go_sem,hL,a9,hgk,d1,d2,d3,iNq]
   refine ⟨by omega,?_⟩
   refine ⟨_,L,by simp only [go_sem];rfl,?_⟩
   simp only [go_sem,hga,hgb]
   refine ⟨_,L,by simp only [go_sem];rfl,?_⟩
   simp only [go_sem,hga,hgb]
   refine ⟨t[k].op,_,_,⟨rfl,c,by omega,rfl,rfl,n1,n2,n3⟩,?_⟩
   simp only [go_sem,hga,hgb,qV,Id]
   refine ⟨⟨by rw [cj,hLl],by rw [cj];omega,by rw [cj];omega,fun z hz=>?_⟩,k+1,by omega,by omega,?_⟩
   ·rw [List.mem_singleton.1 hz];exact J2
   simp only [hfo,cj,hLl,e5]
   exact Z25
 ·have hk1:k=t.length:=by simp at hc;omega
  subst hk1
  have e6:IntKind.i64.wrap ((t.length:Int) - 1)=(t.length:Int) - 1:=by rw [wrap_i64]<;>omega
  simp only [go_sem,a9,e6]
  refine ⟨_,fe e t t.length,by simp only [go_sem];rfl,?_⟩
  obtain ⟨R,hR⟩:∃ R,pT (fe e t t.length) ((t.length:Int) - 1)=R:=⟨_,rfl⟩
  rw [show wl e t=R from hR,hR]
  cases R with
  |i z =>
   simp only [go_sem,fC,gf,ij,im,zij,c6,c7,Mv.bo]
   refine ⟨z,rfl,?_⟩
   exact Z26
  |b x =>
   simp only [go_sem,fC,gf,ij,im,zij,c6,c7,Mv.bo]
   exact Z26
theorem Gv:ti Tryz.prog 209=some ⟨.struct [(0,9,false),(1,9,false),(2,29,false)],4,48,.agg [.str [],.str [],.int .u64 0,.int .u64 0]⟩:=by kernel_rfl
theorem Da:ti Tryz.prog 155=some ⟨.slice 209,1,24,.slice .nil 1 []⟩:=by kernel_rfl
attribute [go_sem] Gv Da
def y8 (n:Nd):Prop:=n.op=2→n.v≤1
def okC (t:List Nd):Prop:=t≠[]∧okW t∧Ci t∧AllN y8 t∧jI t (t.length - 1)=false
def Ct (e:List (VN × Nat)) (t:List Nd):Bool:=(val e t (t.length - 1)).bo
theorem Kv {t:List Nd} {e:List (VN × Nat)} (h:okC t) (he:EQ e):okH e t∧wl e t=val e t (t.length - 1):=by
 obtain ⟨hne,hW,hT,hB,hN⟩:=h
 have hl:0<t.length:=List.length_pos_iff.2 hne
 have hl2:=hW.2.2
 have hve:∀ x∈e,x.2<2^128:=he.2
 refine ⟨⟨by omega,fun i hi=>?_⟩,?_⟩
 ·obtain ⟨g1,g2,g3,g4⟩:=pk hW.1 hi
  refine ⟨g1,g2,by omega,fun h3=>?_⟩
  obtain ⟨ga,gb⟩:=g4.resolve_left (by omega)
  rw [se ga (by omega),se gb (by omega)]
  have b1:=Fw hve hW (i:=t[i].a) (by omega)
  have b2:=Fw hve hW (i:=t[i].b) (by omega)
  unfold isN
  omega
 ·unfold wl pT
  rw [if_neg (by omega),show ((t.length:Int) - 1).toNat=t.length - 1 by omega]
  rfl
end Go.AL
