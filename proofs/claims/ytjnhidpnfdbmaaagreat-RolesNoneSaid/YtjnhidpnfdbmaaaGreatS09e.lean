/- Lemmas of the proof; no condition. -/
import Derived.Test.YtjnhidpnfdbmaaaGreatS08i
import Derived.Test.YtjnhidpnfdbmaaaGreatLEval
set_option linter.all false
set_option maxRecDepth 10000
set_option maxHeartbeats 32000000
open List renaming length_cons → yaz, length_nil → yba, take_of_length_le → ybc, drop_append → ybd, take_append → ybe, drop_eq_nil_of_le → ybf, getD_cons_zero → yau, take_succ_cons → yaq, take_zero → yar, drop_succ_cons → yao, drop_zero → yap
open Go Go.AL Go.Proofs
namespace Go.AL
theorem mX:ti Tryz.prog 197=some ⟨.struct [(0,194,false)],3,24,.agg [.int .u64 0,.int .u64 0,.int .u64 0]⟩:=by kernel_rfl
theorem r8:ti Tryz.prog 190=some ⟨.bool,1,1,.bool false⟩:=by kernel_rfl
theorem Gm:ti Tryz.prog 189=some ⟨.iface 1,1,16,.nili⟩:=by kernel_rfl
theorem DD:ti Tryz.prog 187=some ⟨.slice 189,1,24,.slice .nil 1 []⟩:=by kernel_rfl
theorem FC:ti Tryz.prog 202=some ⟨.struct [(0,9,false),(1,9,false),(2,29,false)],4,48,.agg [.str [],.str [],.int .u64 0,.int .u64 0]⟩:=by kernel_rfl
theorem DF:ti Tryz.prog 145=some ⟨.slice 202,1,24,.slice .nil 1 []⟩:=by kernel_rfl
attribute [go_sem] mX r8 Gm DD FC DF
def mAV:Mv→AV
 |.i z=>.iface 197 (nAV z)
 |.b x=>.iface 190 (.bool x)
def wC (x:VN × Nat):AV:=.agg [.str x.1.1,.str x.1.2,.int .u64 ((x.2/2^64:Nat):Int),.int .u64 ((x.2 % 2^64:Nat):Int)]
def cA (l:List (VN × Nat)):List AV:=l.map wC
theorem bV {l:List (VN × Nat)}:(cA l).length=l.length:=by simp [cA]
theorem zi {l:List (VN × Nat)} {k:Nat} (h:k<l.length):(cA l).getD k .junk=.agg [.str l[k].1.1,.str l[k].1.2,.int .u64 ((l[k].2/2^64:Nat):Int),.int .u64 ((l[k].2 % 2^64:Nat):Int)]:=by
 simp [cA,wC,gEq,h]
theorem bf {n:Nat} {m:Mark} {l:List (VN × Nat)}:AV.lt n (.slice m 4 (cA l))=∀ id,m=.own id→id<n:=by
 rw [AV.lt]
 refine propext ⟨fun h=>h.1,fun h=>⟨h,fun j hj=>?_⟩⟩
 simp only [cA,List.getElem_map,wC]
 simp [znr,znu,znv,znh,znf]
def cZ:List AV→AHeap→(AV→Prop)→Prop
 |[x],_,K=>∃ z,x=nAV z∧K (.bool false)
 |_,_,_=>False
theorem ul:EntOk Tryz.prog 257 (Ent.pure cZ):=by
 refine Ype fun _ H K h=>?_
 unfold cZ at h
 split at h
 rotate_left
 ·exact h.elim
 obtain ⟨z,rfl,hK⟩:=h
 refine ⟨_,hK,?_⟩
 clear hK
 refine ACalls.fW ax tNq Tryz.func257 [.tmp 2] (nrq _) (T:=aq []) (h:=fun hcl hlt=>?_)
 clear hlt
 simp only [go_sem,nAV]
 exact Z0
def c6:List AV→AHeap→(AV→Prop)→Prop
 |[.bool x],_,K=>K (.bool x)
 |_,_,_=>False
theorem sW:EntOk Tryz.prog 183 (Ent.pure c6):=by
 refine Ype fun _ H K h=>?_
 unfold c6 at h
 split at h
 rotate_left
 ·exact h.elim
 refine ⟨_,h,?_⟩
 clear h
 refine ACalls.fW ax tNq Tryz.func183 [.tmp 2] (nrq _) (T:=aq []) (h:=fun hcl hlt=>?_)
 clear hlt
 simp only [go_sem]
 exact Z0
theorem yk:nAV 0=.agg [.int .u64 0,.int .u64 0,.int .u64 0]:=by rfl
theorem si:(190=197)=False:=eq_false (by decide)
def uu:List AV→AHeap→(AV→Prop)→Prop
 |[x],_,K=>∃ m,x=mAV m∧K (nAV m.num)
 |_,_,_=>False
theorem rj:EntOk Tryz.prog 154 (Ent.pure uu):=by
 refine Ype fun _ H K h=>?_
 unfold uu at h
 split at h
 rotate_left
 ·exact h.elim
 obtain ⟨m,rfl,hK⟩:=h
 refine ⟨_,hK,?_⟩
 clear hK
 cases m with
 |i z =>
  refine ACalls.fW ax tNq Tryz.func154 [.cell 2 194] (nrq _) (T:=aq []) (h:=fun hcl hlt=>?_)
  clear hlt
  simp only [go_sem,mAV,Mv.num,fI,mX,if_true,nAV]
  exact Z0
 |b x =>
  refine ACalls.fW ax tNq Tryz.func154 [.cell 2 194] (nrq _) (T:=aq []) (h:=fun hcl hlt=>?_)
  clear hlt
  simp only [go_sem,mAV,Mv.num,yk,fI,mX,si]
  exact Z0
def EK (e:List (VN × Nat)):Prop:=e.length<4611686018427387904∧∀ x∈e,x.2<340282366920938463463374607431768211456
def vY:List AV→AHeap→(AV→Prop)→Prop
 |[x,.slice _ 4 y],_,K=>∃ n e,(x=qn n∧y=cA e∧EK e)∧K (nAV (lH e (n.name,n.attr)))
 |_,_,_=>False
theorem od {y x:VN} {v:Nat} {l:List (VN × Nat)}:lH ((y,v)::l) x=if y=x then (v:Int) else lH l x:=rfl
theorem zQ:EntOk Tryz.prog 120 (Ent.pure vY):=by
 refine Ype fun _ H K h=>?_
 unfold vY at h
 split at h
 rotate_left
 ·exact h.elim
 rename_i x m y
 obtain ⟨n,e,⟨rfl,rfl,hl,hv⟩,hK⟩:=h
 obtain ⟨Q,hQ⟩:∃ Q,lH e (n.name,n.attr)=Q:=⟨_,rfl⟩
 rw [hQ] at hK
 refine ⟨_,hK,?_⟩
 clear hK
 refine ACalls.fW ax (tCq xL (tCq EI tNq)) Tryz.func120 [.cell 4 194] (nrq _) (T:=aq []) (h:=fun hcl hlt=>?_)
 have hm:∀ n',H.nx≤n'→AV.lt n' (.slice m 4 (cA e)):=fun n' hn=>AV.lt_mono hn _ (hlt (.slice m 4 (cA e)) (by simp))
 clear hlt
 simp only [go_sem,qn,bV]
 refine aE (A:=Nat) (fun j=>[(2,.ptr H.nx 0),(4,.ptr (H.nx+1) 0),(7,.slice m 4 (cA e)),(8,.int .i64 (e.length:Int)),(9,.int .i64 (j:Int))])
  (fun _=>(H.push (.cells [.int .i64 (n.op:Int),.int .i64 (n.a:Int),.int .i64 (n.b:Int),.str n.name,.str n.attr,.int .u64 ((n.v/2^64:Nat):Int),.int .u64 ((n.v % 2^64:Nat):Int)])).push (.cells [.int .u64 0,.int .u64 0,.int .u64 0])) (fun j=>j≤e.length∧lH (e.drop j) (n.name,n.attr)=Q) (fun j=>e.length - j) 0 ⟨Nat.zero_le _,hQ⟩ ?_ fun j hj=>?_
 ·exact Z24
 obtain ⟨hj,hq⟩:=hj
 simp only [go_sem]
 refine aj (fun hc=>?_) (fun hc=>?_)
 ·have hj1:j<e.length:=by simp at hc;omega
  have e5:IntKind.i64.wrap ((j:Int)+1)=((j+1:Nat):Int):=by rw [wrap_i64]<;>omega
  have hne:(H.nx=H.nx+2)=False:=eq_false (by omega)
  have hv1:e[j].2<340282366920938463463374607431768211456:=hv e[j] (gMq hj1)
  rw [dcq hj1] at hq
  have hz:((((e[j].2/2^64:Nat):Int)*2^64+((e[j].2 % 2^64:Nat):Int):Int))=(e[j].2:Int):=by omega
  simp only [go_sem,bV,zi hj1,iNq,hne,e5]
  refine ⟨by omega,fun h1=>?_,fun h1=>?_⟩
  ·cases h2:(e[j].1.2==n.attr)
   ·have hx:¬ (e[j].1=(n.name,n.attr)):=fun h=>by rw [h] at h2;simp at h2
    rw [show e[j]=(e[j].1,e[j].2) from rfl,od,if_neg hx] at hq
    simp only [go_sem,h2]
    refine ⟨j+1,⟨by omega,hq⟩,by omega,?_⟩
    exact Z24
   ·have hx:e[j].1=(n.name,n.attr):=Prod.ext (eq_of_beq h1) (eq_of_beq h2)
    rw [show e[j]=(e[j].1,e[j].2) from rfl,od,if_pos hx] at hq
    subst hq
    simp only [go_sem,h2,sf,hz,nAV]
    refine ⟨by omega,?_⟩
    exact Z0
  ·have hx:¬ (e[j].1=(n.name,n.attr)):=fun h=>by rw [h] at h1;simp at h1
   rw [show e[j]=(e[j].1,e[j].2) from rfl,od,if_neg hx] at hq
   refine ⟨j+1,⟨by omega,hq⟩,by omega,?_⟩
   exact Z24
 ·have hj1:j=e.length:=by simp at hc;omega
  subst hj1
  rw [List.drop_length] at hq
  have hq':0=Q:=hq
  subst hq'
  simp only [go_sem,Bf,yk]
  refine ⟨by omega,?_⟩
  exact Z0
theorem rT {a b:Int}:decide (lC a b<0)=decide (a<b):=by unfold lC;split<;>(try split)<;>simp<;>omega
theorem rU {a b:Int}:decide (lC a b≤0)=decide (a≤b):=by unfold lC;split<;>(try split)<;>simp<;>omega
theorem sc {a b:Int}:decide (0<lC a b)=decide (b<a):=by unfold lC;split<;>(try split)<;>simp<;>omega
theorem rV {a b:Int}:decide (0≤lC a b)=decide (b≤a):=by unfold lC;split<;>(try split)<;>simp<;>omega
def oh (op:Nat) (a b:Int):Option Mv :=
 if op=4 then some (.i (-a)) else if op=6 then some (.i (a+b)) else if op=7 then some (.i (a - b))
 else if op=10 then some (.b (decide (a<b))) else if op=11 then some (.b (decide (a≤b))) else if op=12 then some (.b (decide (b<a))) else if op=13 then some (.b (decide (b≤a))) else none
def tZ:Option Mv→AV
 |some m=>.tup [mAV m,.bool true]
 |none=>.tup [.nili,.bool false]
def zn:List AV→AHeap→(AV→Prop)→Prop
 |[.int .i64 z,x,y],_,K=>∃ op a b,(z=((op:Nat):Int)∧op<100∧x=nAV a∧y=nAV b∧isN a∧isN b∧isN (a - b))∧K (tZ (oh op a b))
 |_,_,_=>False
theorem HP:EntOk Tryz.prog 153 (Ent.pure zn):=by
 refine Ype fun _ H K h=>?_
 unfold zn at h
 split at h
 rotate_left
 ·exact h.elim
 rename_i z x y
 obtain ⟨op,a,b,⟨rfl,ho,rfl,rfl,ha,hb,hc⟩,hK⟩:=h
 refine ⟨_,hK,?_⟩
 clear hK
 refine ACalls.fW ax (tCq Bl (tCq wm (tCq Bv (tCq xZ tNq)))) Tryz.func153 [.tmp 6,.tmp 7] (nrq _) (T:=aq []) (h:=fun hcl hlt=>?_)
 clear hlt
 rcases (by omega:op=4∨op=6∨op=7∨op=10∨op=11∨op=12∨op=13∨(op≠4∧op≠6∧op≠7∧op≠10∧op≠11∧op≠12∧op≠13)) with h|h|h|h|h|h|h|h
 ·have hi:(op:Int)=4:=by omega
  have hs:oh op a b=some (.i (-a)):=by subst h;rfl
  simp only [go_sem,nAV,hs,tZ,mAV,zZ,hi,Int.reduceBEq]
  refine ⟨a,rfl,?_⟩
  exact Z0
 ·have hi:(op:Int)=6:=by omega
  have hs:oh op a b=some (.i (a+b)):=by subst h;rfl
  simp only [go_sem,nAV,hs,tZ,mAV,w5,hi,Int.reduceBEq]
  refine ⟨a,b,⟨rfl,rfl⟩,?_⟩
  exact Z0
 ·have hi:(op:Int)=7:=by omega
  have hs:oh op a b=some (.i (a - b)):=by subst h;rfl
  simp only [go_sem,nAV,hs,tZ,mAV,wE,hi,Int.reduceBEq]
  refine ⟨a,b,⟨rfl,rfl⟩,?_⟩
  exact Z0
 ·have hi:(op:Int)=10:=by omega
  have hs:oh op a b=some (.b (decide (a<b))):=by subst h;rfl
  simp only [go_sem,nAV,hs,tZ,mAV,iy,hi,Int.reduceBEq]
  refine ⟨a,b,⟨rfl,rfl,ha,hb,hc⟩,?_⟩
  simp only [go_sem,nAV,rT,rU,sc,rV]
  exact Z0
 ·have hi:(op:Int)=11:=by omega
  have hs:oh op a b=some (.b (decide (a≤b))):=by subst h;rfl
  simp only [go_sem,nAV,hs,tZ,mAV,iy,hi,Int.reduceBEq]
  refine ⟨a,b,⟨rfl,rfl,ha,hb,hc⟩,?_⟩
  simp only [go_sem,nAV,rT,rU,sc,rV]
  exact Z0
 ·have hi:(op:Int)=12:=by omega
  have hs:oh op a b=some (.b (decide (b<a))):=by subst h;rfl
  simp only [go_sem,nAV,hs,tZ,mAV,iy,hi,Int.reduceBEq]
  refine ⟨a,b,⟨rfl,rfl,ha,hb,hc⟩,?_⟩
  simp only [go_sem,nAV,rT,rU,sc,rV]
  exact Z0
 ·have hi:(op:Int)=13:=by omega
  have hs:oh op a b=some (.b (decide (b≤a))):=by subst h;rfl
  simp only [go_sem,nAV,hs,tZ,mAV,iy,hi,Int.reduceBEq]
  refine ⟨a,b,⟨rfl,rfl,ha,hb,hc⟩,?_⟩
  simp only [go_sem,nAV,rT,rU,sc,rV]
  exact Z0
 ·obtain ⟨h1,h2,h3,h4,h5,h6,h7⟩:=h
  have d1:((op:Int)==4)=false:=beq_eq_false_iff_ne.2 (by omega)
  have d2:((op:Int)==6)=false:=beq_eq_false_iff_ne.2 (by omega)
  have d3:((op:Int)==7)=false:=beq_eq_false_iff_ne.2 (by omega)
  have d4:((op:Int)==10)=false:=beq_eq_false_iff_ne.2 (by omega)
  have d5:((op:Int)==11)=false:=beq_eq_false_iff_ne.2 (by omega)
  have d6:((op:Int)==12)=false:=beq_eq_false_iff_ne.2 (by omega)
  have d7:((op:Int)==13)=false:=beq_eq_false_iff_ne.2 (by omega)
  have hs:oh op a b=none:=by simp [oh,h1,h2,h3,h4,h5,h6,h7]
  simp only [go_sem,nAV,hs,tZ,d1,d2,d3,d4,d5,d6,d7]
  exact Z0
theorem fV {z:Int}:mAV (.i z)=.iface 197 (nAV z):=rfl
theorem fq {x:Bool}:mAV (.b x)=.iface 190 (.bool x):=rfl
def yv:List AV→AHeap→(AV→Prop)→Prop
 |[x,y],_,K=>∃ a b,(x=mAV a∧y=mAV b∧isN a.num∧isN b.num)∧K (.bool (mEq a b))
 |_,_,_=>False
theorem My : mth Tryz.prog 197 "matchguard/eval.holds" = some 257 := by kernel_rfl
theorem LF : mth Tryz.prog 190 "matchguard/eval.holds" = some 183 := by kernel_rfl
theorem gY {v : AV} : DU Tryz.prog "matchguard/eval.holds" (.iface 197 v) = .func (.func 257) [] [] := tq My
theorem gZ {v : AV} : DU Tryz.prog "matchguard/eval.holds" (.iface 190 v) = .func (.func 183) [] [] := tq LF
theorem Cd:EntOk Tryz.prog 155 (Ent.pure yv):=by
 refine Ype fun _ H K h=>?_
 unfold yv at h
 split at h
 rotate_left
 ·exact h.elim
 rename_i x y
 obtain ⟨a,b,⟨rfl,rfl,ha,hb⟩,hK⟩:=h
 refine ⟨_,hK,?_⟩
 clear hK
 refine ACalls.fW ax (tCq rj (tCq sW (tCq ul tNq))) Tryz.func155 [.tmp 4] (nrq _) (T:=aq []) (h:=fun hcl hlt=>?_)
 clear hlt
 cases a with
 |i z =>
  have hq:((w0 z==w0 b.num)&&((w1 z==w1 b.num)&&(w2 z==w2 b.num)))=decide (z=b.num):=MS ha hb
  have hz:mEq (.i z) b=decide (z=b.num):=rfl
  simp only [go_sem,fV,fI,mX,r8,si,if_true,nAV,hz]
  refine ⟨b,rfl,?_⟩
  simp only [go_sem,nAV,Jw,Il,hq,Bool.bne_false]
  exact Z0
 |b x =>
  cases b with
  |i z =>
   simp only [go_sem,fV,fq,fI,mX,r8,si,if_true,nAV,mEq,Mv.bo,gY,gZ,zij,c6,cZ,Bool.bne_false]
   refine ⟨z,rfl,?_⟩
   exact Z0
  |b y =>
   simp only [go_sem,fV,fq,fI,mX,r8,si,if_true,nAV,mEq,Mv.bo,gY,gZ,zij,c6,cZ,Bool.bne_false]
   exact Z0
theorem Hr {op:Nat} {a b v:Mv} (h:oh op a.num b.num=some v):opV op a b=v:=by
 unfold oh at h;unfold opV
 repeat' split at h
 all_goals first|(cases h;simp_all;done)|(cases h)
def Bz:List AV→AHeap→(AV→Prop)→Prop
 |[.int .i64 z,x,y],_,K=>∃ op a b,(z=((op:Nat):Int)∧3<op∧op<100∧x=mAV a∧y=mAV b∧isN a.num∧isN b.num∧isN (a.num - b.num))∧K (mAV (opV op a b))
 |_,_,_=>False
theorem GR {op:Nat} {a b:Int} (h:oh op a b=none):op≠4∧op≠6∧op≠7∧op≠10∧op≠11∧op≠12∧op≠13:=by
 unfold oh at h
 repeat' split at h
 all_goals first|(cases h;done)|omega
theorem EY:EntOk Tryz.prog 121 (Ent.pure Bz):=by
 refine Ype fun _ H K h=>?_
 unfold Bz at h
 split at h
 rotate_left
 ·exact h.elim
 rename_i z x y
 obtain ⟨op,a,b,⟨rfl,h3,ho,rfl,rfl,ha,hb,hc⟩,hK⟩:=h
 refine ⟨_,hK,?_⟩
 clear hK
 refine ACalls.fW ax (tCq rj (tCq HP (tCq Cd (tCq sW (tCq ul tNq))))) Tryz.func121 [.tmp 6] (nrq _) (T:=aq []) (h:=fun hcl hlt=>?_)
 clear hlt
 simp only [go_sem]
 refine ⟨a,rfl,?_⟩
 simp only [go_sem]
 refine ⟨b,rfl,?_⟩
 simp only [go_sem,zn]
 refine ⟨op,a.num,b.num,⟨rfl,ho,rfl,rfl,ha,hb,hc⟩,?_⟩
 cases hs:oh op a.num b.num with
 |some v =>
  have hv:=Hr hs
  simp only [go_sem,tZ,hv]
  cases v<;>simp (disch:=first|exact Zd|omega) [↓zmo,beq,ybc,ybd,ybe,ae,wk,wk2,wk1,wkM,wkL,ah,ybf,hcl,mAV,nAV]
 |none =>
  obtain ⟨h4,h6,h7,h10,h11,h12,h13⟩:=GR hs
  simp only [go_sem,tZ]
  rcases (by omega:op=8∨op=9∨op=5∨op=14∨op=15∨(op≠8∧op≠9∧op≠5∧op≠14∧op≠15)) with h|h|h|h|h|h
  ·have hi:(op:Int)=8:=by omega
   have hv:opV op a b=.b (mEq a b):=by subst h;rfl
   simp only [go_sem,hi,Int.reduceBEq,hv,fq]
   refine ⟨a,b,⟨rfl,rfl,ha,hb⟩,?_⟩
   simp only [go_sem]
   exact Z0
  ·have hi:(op:Int)=9:=by omega
   have hv:opV op a b=.b (!mEq a b):=by subst h;rfl
   simp only [go_sem,hi,Int.reduceBEq,hv,fq]
   refine ⟨a,b,⟨rfl,rfl,ha,hb⟩,?_⟩
   simp only [go_sem]
   exact Z0
  ·have hi:(op:Int)=5:=by omega
   have hv:opV op a b=.b (!a.bo):=by subst h;rfl
   rw [hv]
   cases a with
   |i z =>
    simp only [go_sem,hi,Int.reduceBEq,fq,fV,gY,gZ,zij,c6,cZ,Mv.bo]
    refine ⟨z,rfl,?_⟩
    exact Z0
   |b x =>
    simp only [go_sem,hi,Int.reduceBEq,fq,fV,gY,gZ,zij,c6,cZ,Mv.bo]
    exact Z0
  ·have hi:(op:Int)=14:=by omega
   have hv:opV op a b=.b (a.bo&&b.bo):=by subst h;rfl
   rw [hv]
   cases a with
   |i z =>
    cases b with
    |i w =>
     simp only [go_sem,hi,Int.reduceBEq,fq,fV,gY,gZ,zij,c6,cZ,Mv.bo]
     refine ⟨z,rfl,?_⟩
     exact Z0
    |b y =>
     simp only [go_sem,hi,Int.reduceBEq,fq,fV,gY,gZ,zij,c6,cZ,Mv.bo]
     refine ⟨z,rfl,?_⟩
     exact Z0
   |b x =>
    cases b with
    |i w =>
     simp only [go_sem,hi,Int.reduceBEq,fq,fV,gY,gZ,zij,c6,cZ,Mv.bo]
     refine ⟨fun hx=>⟨w,rfl,?_⟩,fun hx=>?_⟩<;>simp (disch:=first|exact Zd|omega) [↓zmo,beq,ybc,ybd,ybe,ae,wk,wk2,wk1,wkM,wkL,ah,ybf,hcl,hx]
    |b y =>
     simp only [go_sem,hi,Int.reduceBEq,fq,fV,gY,gZ,zij,c6,cZ,Mv.bo]
     refine ⟨fun hx=>?_,fun hx=>?_⟩<;>simp (disch:=first|exact Zd|omega) [↓zmo,beq,ybc,ybd,ybe,ae,wk,wk2,wk1,wkM,wkL,ah,ybf,hcl,hx]
  ·have hi:(op:Int)=15:=by omega
   have hv:opV op a b=.b (a.bo||b.bo):=by subst h;rfl
   rw [hv]
   cases a with
   |i z =>
    cases b with
    |i w =>
     simp only [go_sem,hi,Int.reduceBEq,fq,fV,gY,gZ,zij,c6,cZ,Mv.bo]
     refine ⟨z,rfl,w,rfl,?_⟩
     exact Z0
    |b y =>
     simp only [go_sem,hi,Int.reduceBEq,fq,fV,gY,gZ,zij,c6,cZ,Mv.bo]
     refine ⟨z,rfl,?_⟩
     exact Z0
   |b x =>
    cases b with
    |i w =>
     simp only [go_sem,hi,Int.reduceBEq,fq,fV,gY,gZ,zij,c6,cZ,Mv.bo]
     refine ⟨fun hx=>?_,fun hx=>⟨w,rfl,?_⟩⟩<;>simp (disch:=first|exact Zd|omega) [↓zmo,beq,ybc,ybd,ybe,ae,wk,wk2,wk1,wkM,wkL,ah,ybf,hcl,hx]
    |b y =>
     simp only [go_sem,hi,Int.reduceBEq,fq,fV,gY,gZ,zij,c6,cZ,Mv.bo]
     refine ⟨fun hx=>?_,fun hx=>?_⟩<;>simp (disch:=first|exact Zd|omega) [↓zmo,beq,ybc,ybd,ybe,ae,wk,wk2,wk1,wkM,wkL,ah,ybf,hcl,hx]
  ·obtain ⟨x1,x2,x3,x4,x5⟩:=h
   have d1:((op:Int)==8)=false:=beq_eq_false_iff_ne.2 (by omega)
   have d2:((op:Int)==9)=false:=beq_eq_false_iff_ne.2 (by omega)
   have d3:((op:Int)==5)=false:=beq_eq_false_iff_ne.2 (by omega)
   have d4:((op:Int)==14)=false:=beq_eq_false_iff_ne.2 (by omega)
   have d5:((op:Int)==15)=false:=beq_eq_false_iff_ne.2 (by omega)
   have hv:opV op a b=.b (!a.bo||b.bo):=by simp [opV,h4,h6,h7,h10,h11,h12,h13,x1,x2,x3,x4,x5]
   rw [hv]
   cases a with
   |i z =>
    cases b with
    |i w =>
     simp only [go_sem,d1,d2,d3,d4,d5,fq,fV,gY,gZ,zij,c6,cZ,Mv.bo]
     refine ⟨z,rfl,?_⟩
     exact Z0
    |b y =>
     simp only [go_sem,d1,d2,d3,d4,d5,fq,fV,gY,gZ,zij,c6,cZ,Mv.bo]
     refine ⟨z,rfl,?_⟩
     exact Z0
   |b x =>
    cases b with
    |i w =>
     simp only [go_sem,d1,d2,d3,d4,d5,fq,fV,gY,gZ,zij,c6,cZ,Mv.bo]
     refine ⟨fun hx=>?_,fun hx=>⟨w,rfl,?_⟩⟩<;>simp (disch:=first|exact Zd|omega) [↓zmo,beq,ybc,ybd,ybe,ae,wk,wk2,wk1,wkM,wkL,ah,ybf,hcl,hx]
    |b y =>
     simp only [go_sem,d1,d2,d3,d4,d5,fq,fV,gY,gZ,zij,c6,cZ,Mv.bo]
     refine ⟨fun hx=>?_,fun hx=>?_⟩<;>simp (disch:=first|exact Zd|omega) [↓zmo,beq,ybc,ybd,ybe,ae,wk,wk2,wk1,wkM,wkL,ah,ybf,hcl,hx]
theorem B0:ti Tryz.prog 29=some ⟨.struct [(0,27,false),(1,27,false)],2,16,.agg [.int .u64 0,.int .u64 0]⟩:=by kernel_rfl
attribute [go_sem] B0
theorem GF {a b c d:Int}:teq Tryz.prog 9 29 (.agg [.int .u64 a,.int .u64 b]) (.agg [.int .u64 c,.int .u64 d])=some ((a==c)&&((b==d)&&true)):=by
 have g1:Tryz.prog.stoodInHeld 29=false:=by kernel_rfl
 simp [B0,teq,teq.go,teq.part,r9,ceq,g1,TD.agg]
theorem Fo:Tryz.prog.eqGuardType Tryz.prog.depth 29=false:=by kernel_rfl
def mvs (l:List Mv):List AV:=l.map mAV
theorem cn {l:List Mv}:(mvs l).length=l.length:=by simp [mvs]
theorem Iy {l:List Mv} {k:Nat} (h:k<l.length):(mvs l).getD k .junk=mAV (l.getD k (.b false)):=by
 simp [mvs,gEq,h]
theorem AS {l:List Mv} {m:Mv}:mvs l++[mAV m]=mvs (l++[m]):=by simp [mvs]
theorem Kg {n:Nat} {m:Mv}:AV.lt n (mAV m):=by cases m<;>simp [mAV,nAV,znq,znr,znu,znv,znf,zng]
theorem qF {m:Mv}:(mAV m).cells=[mAV m]:=by cases m<;>rfl
theorem Jo {m:Mv}:(mAV m).one=true:=by cases m<;>rfl
theorem I6 {m:Mv}:bg (mAV m).cells=true:=by cases m<;>rfl
def pE (l:List Mv) (i:Int):Mv:=if i<0 then .b false else l.getD i.toNat (.b false)
def JW:List AV→AHeap→(AV→Prop)→Prop
 |[.int .i64 i,.ptr c 0],H,K=>∃ mk l,H.get c=some (.cells [.slice mk 1 (mvs l)])∧K (mAV (pE l i))
 |_,_,_=>False
theorem KQ:EntOk Tryz.prog 118 (Ent.pure JW):=by
 refine Ype fun _ H K h=>?_
 unfold JW at h
 split at h
 rotate_left
 ·exact h.elim
 rename_i i c
 obtain ⟨mk,l,hg,hK⟩:=h
 refine ⟨_,hK,?_⟩
 clear hK
 refine ACalls.fW ax tNq Tryz.func118 [.tmp 3] (nrq _) (T:=aq []) (h:=fun hcl hlt=>?_)
 clear hlt
 have hcs:=au (cs:=[.slice mk 1 (mvs l)]) hg
 by_cases h0:i<0
 ·have d1:decide (i<0)=true:=dtq h0
  have hv:pE l i=.b false:=by unfold pE;rw [if_pos h0]
  simp only [go_sem,hcs,d1,hv,fq]
  exact Z0
 ·have d1:decide (i<0)=false:=dfq h0
  by_cases h1:(l.length:Int)≤i
  ·have d2:decide ((l.length:Int)≤i)=true:=dtq h1
   have hv:pE l i=.b false:=by
    unfold pE;rw [if_neg h0,gEq,gNq (by omega)];rfl
   simp only [go_sem,hcs,d1,hv,fq,cn,d2]
   exact Z0
  ·have d2:decide ((l.length:Int)≤i)=false:=dfq h1
   have hi:i.toNat<l.length:=by omega
   have hv:pE l i=l.getD i.toNat (.b false):=by unfold pE;rw [if_neg h0]
   simp only [go_sem,hcs,d1,hv,cn,d2,Iy hi]
   refine ⟨by omega,by rw [qF];exact Nat.one_pos,?_⟩
   simp only [qF,yau]
   generalize l.getD i.toNat (.b false)=r
   cases r<;>simp (disch:=first|exact Zd|omega) [↓zmo,beq,ybc,ybd,ybe,ae,wk,wk2,wk1,wkM,wkL,ah,ybf,hcl,mAV,nAV]
theorem KB {n:Nat} {m:Mark} {l:List Mv}:AV.lt n (.slice m 1 (mvs l))=∀ id,m=.own id→id<n:=by
 rw [AV.lt]
 refine propext ⟨fun h=>h.1,fun h=>⟨h,fun j hj=>?_⟩⟩
 simp only [mvs,List.getElem_map]
 exact Kg
theorem Nc {H:AHeap} (hcl:H.Closed) (k:Nat) (l:List Mv):((H.push (.cells [.slice (.own (H.nx+1)) 1 (mvs l)])).push (.buf 1 k)).Closed:=by
 have h1:=ai (i:=H.nx) (cs:=[.slice (.own (H.nx+1)) 1 (mvs l)]) (ag (a:=1) (b:=k) (aa (cs:=[]) hcl trivial)) (by
  simp only [znu,znv,and_true,zle]
  rw [KB]
  intro id hi
  injection hi with hi
  omega)
 simp only [go_sem] at h1
 exact h1
theorem M7 {n f c:Nat} (h:c<n):AV.lt n (.func (.func f) [] [.ptr c 0]):=by
 rw [AV.lt]
 refine ⟨fun j hj=>absurd hj (by simp),fun j hj=>?_⟩
 have:j=0:=by simpa using hj
 subst this
 simpa [znn] using h
def okH (e:List (VN × Nat)) (t:List Nd):Prop:=t.length<100000∧∀ i (h:i<t.length),1≤t[i].op∧t[i].op≤16∧t[i].v<340282366920938463463374607431768211456∧(3<t[i].op→isN ((eZ e t i).getD t[i].a (.b false)).num∧isN ((eZ e t i).getD t[i].b (.b false)).num∧isN (((eZ e t i).getD t[i].a (.b false)).num - ((eZ e t i).getD t[i].b (.b false)).num))
def u9 (e:List (VN × Nat)) (t:List Nd):Mv:=pE (eZ e t t.length) ((t.length:Int) - 1)
def oU:List AV→AHeap→(AV→Prop)→Prop
 |[.slice _ 7 x,.slice _ 4 y],_,K=>∃ t e,(x=nds t∧y=cA e∧okH e t∧EK e)∧K (.bool (u9 e t).bo)
 |_,_,_=>False
theorem Ct:EntOk Tryz.prog 80 (Ent.pure oU):=by
 refine Ype fun _ H K h=>?_
 unfold oU at h
 split at h
 rotate_left
 ·exact h.elim
 rename_i m x m2 y
 obtain ⟨t,e,⟨rfl,rfl,⟨ht,hn⟩,hb⟩,hK⟩:=h
 refine ⟨_,hK,?_⟩
 clear hK
 refine ACalls.fW ax (tCq KQ (tCq xL (tCq qd (tCq zQ (tCq EY (tCq sW (tCq ul tNq))))))) Tryz.func80 [.tmp 4] (nrq _) (T:=aq [(9,[[],[],[],[2],[],[],[2,3],[0,2,3],[0,2,3]]),(11,[[],[],[],[],[],[],[2,3],[0,2,3],[0,2,3]]),(13,[[],[],[],[1],[],[],[1,3],[0,1,3],[0,1,3]]),(7,[[],[],[],[],[],[],[5],[],[],[],[5,6,9],[2,5,6,9,10],[2,5,6,9,10,11],[0,2,5,6,9,10,11],[0,2,5,6,9,10,11]]),(3,[[1]])]) (h:=fun hcl hlt=>?_)
 have hm:∀ n',H.nx≤n'→AV.lt n' (.slice m 7 (nds t)):=fun n' hn=>AV.lt_mono hn _ (hlt (.slice m 7 (nds t)) (by simp))
 have hm2:∀ n',H.nx≤n'→AV.lt n' (.slice m2 4 (cA e)):=fun n' hn=>AV.lt_mono hn _ (hlt (.slice m2 4 (cA e)) (by simp))
 clear hlt
 have hF:∀ n',H.nx+1≤n'→AV.lt n' (.func (.func 118) [] [.ptr H.nx 0]):=fun n' hn=>M7 (by omega)
 have hcH:=fun k l=>Nc hcl k l
 simp only [go_sem]
 refine Dg 5 0 1 (cs:=[AV.slice .nil 1 []]) rfl (by simp only [go_sem]) rfl ?_
 simp only [bhq,Nat.reduceMod,Nat.reduceDiv,aC,aB,aD,aR,aF,aQ,aN,aO,aP,yaq,yar,yao,yap,go_sem,bb,List.set_cons_zero]
 refine aE (A:=Nat) (fun k=>[(0,.slice m 7 (nds t)),(1,.slice m2 4 (cA e)),(5,.ptr H.nx 0),(6,.func (.func 118) [] [.ptr H.nx 0]),(10,.slice m 7 (nds t)),(11,.int .i64 (t.length:Int)),(12,.int .i64 (k:Int))])
  (fun k=>(H.push (.cells [.slice (.own (H.nx+1)) 1 (mvs (eZ e t k))])).push (.buf 1 k)) (fun k=>k≤t.length) (fun k=>t.length - k) 0 (Nat.zero_le _) ?_ fun k hk=>?_
 ·exact Z25
 simp only [go_sem]
 refine aj (fun hc=>?_) (fun hc=>?_)
 ·have hk1:k<t.length:=by simp at hc;omega
  have e5:=Yk5 k
  obtain ⟨o1,o2,hv1,hnum⟩:=hn k hk1
  have hvk:eZ e t (k+1)=eZ e t k++[jV e (eZ e t k) t[k]]:=by
   rw [eZ,show t.getD k default=t[k] by simp [gEq,hk1]]
  obtain ⟨L,hL⟩:∃ L,eZ e t k=L:=⟨_,rfl⟩
  rw [hL] at hvk hnum
  have hLl:L.length=k:=by rw [← hL,kz]
  have hgk:=fD hk1
  have hb1:t[k].v % 2^64<18446744073709551616:=Nat.mod_lt _ (by decide)
  have hz:((((t[k].v/2^64:Nat):Int)*2^64+((t[k].v % 2^64:Nat):Int):Int))=(t[k].v:Int):=by omega
  have hfo0:mvs L++[mAV (jV e L t[k])]=mvs (eZ e t (k+1)):=by rw [hvk,AS]
  rcases (by omega:t[k].op=1∨t[k].op=2∨t[k].op=3∨3<t[k].op) with c|c|c|c
  ·have d1:((t[k].op:Int)==1)=true:=by rw [c];rfl
   have hw:jV e L t[k]=.i t[k].v:=by unfold jV;rw [if_pos c]
   have hfo:=hfo0
   rw [hw,fV,nAV] at hfo
   simp only [go_sem,hL,bb,hgk,d1,iNq,sf,hz,nAV]
   refine ⟨by omega,by omega,?_⟩
   refine ⟨⟨by rw [cn,hLl],by rw [cn];omega,by rw [cn];omega,fun z hz=>?_⟩,k+1,by omega,by omega,?_⟩
   ·rw [List.mem_singleton.1 hz];rfl
   simp only [hfo,cn,hLl,e5]
   exact Z25
  ·have d1:((t[k].op:Int)==1)=false:=by rw [c];rfl
   have d2:((t[k].op:Int)==2)=true:=by rw [c];rfl
   have hvq:(((t[k].v/2^64:Nat):Int)==0&&((t[k].v % 2^64:Nat):Int)==1)=decide (t[k].v=1):=by
    rw [Bool.eq_iff_iff];simp only [Bool.and_eq_true,beq_iff_eq,decide_eq_true_eq];omega
   have hw:jV e L t[k]=.b (decide (t[k].v=1)):=by unfold jV;rw [if_neg (by omega),if_pos c]
   have hfo:=hfo0
   rw [hw,fq] at hfo
   simp only [go_sem,hL,bb,hgk,d1,d2,iNq,rd,GF,Fo,Bool.bne_false,Bool.and_true,hvq]
   refine ⟨by omega,?_⟩
   refine ⟨⟨by rw [cn,hLl],by rw [cn];omega,by rw [cn];omega,fun z hz=>?_⟩,k+1,by omega,by omega,?_⟩
   ·rw [List.mem_singleton.1 hz];rfl
   simp only [hfo,cn,hLl,e5]
   exact Z25
  ·have d1:((t[k].op:Int)==1)=false:=by rw [c];rfl
   have d2:((t[k].op:Int)==2)=false:=by rw [c];rfl
   have d3:((t[k].op:Int)==3)=true:=by rw [c];rfl
   have hw:jV e L t[k]=.i (lH e (t[k].name,t[k].attr)):=by unfold jV;rw [if_neg (by omega),if_neg (by omega),if_pos c]
   have hfo:=hfo0
   rw [hw,fV,nAV] at hfo
   simp only [go_sem,hL,bb,hgk,d1,d2,d3,iNq]
   refine ⟨by omega,t[k],e,⟨rfl,rfl,hb⟩,?_⟩
   simp only [go_sem,nAV]
   refine ⟨⟨by rw [cn,hLl],by rw [cn];omega,by rw [cn];omega,fun z hz=>?_⟩,k+1,by omega,by omega,?_⟩
   ·rw [List.mem_singleton.1 hz];rfl
   simp only [hfo,cn,hLl,e5]
   exact Z25
  ·have d1:((t[k].op:Int)==1)=false:=beq_eq_false_iff_ne.2 (by omega)
   have d2:((t[k].op:Int)==2)=false:=beq_eq_false_iff_ne.2 (by omega)
   have d3:((t[k].op:Int)==3)=false:=beq_eq_false_iff_ne.2 (by omega)
   have hw:jV e L t[k]=opV t[k].op (L.getD t[k].a (.b false)) (L.getD t[k].b (.b false)):=by unfold jV;rw [if_neg (by omega),if_neg (by omega),if_neg (by omega)]
   have hga:pE L (t[k].a:Int)=L.getD t[k].a (.b false):=by unfold pE;rw [if_neg (by omega),iNq]
   have hgb:pE L (t[k].b:Int)=L.getD t[k].b (.b false):=by unfold pE;rw [if_neg (by omega),iNq]
   obtain ⟨n1,n2,n3⟩:=hnum c
   have hfo:=hfo0
   rw [hw] at hfo
   simp only [go_sem,hL,bb,hgk,d1,d2,d3,iNq]
   refine ⟨by omega,?_⟩
   refine ⟨_,L,by simp only [go_sem];rfl,?_⟩
   simp only [go_sem,hga,hgb]
   refine ⟨_,L,by simp only [go_sem];rfl,?_⟩
   simp only [go_sem,hga,hgb]
   refine ⟨t[k].op,_,_,⟨rfl,c,by omega,rfl,rfl,n1,n2,n3⟩,?_⟩
   simp only [go_sem,hga,hgb,qF,Jo]
   refine ⟨⟨by rw [cn,hLl],by rw [cn];omega,by rw [cn];omega,fun z hz=>?_⟩,k+1,by omega,by omega,?_⟩
   ·rw [List.mem_singleton.1 hz];exact I6
   simp only [hfo,cn,hLl,e5]
   exact Z25
 ·have hk1:k=t.length:=by simp at hc;omega
  subst hk1
  have e6:IntKind.i64.wrap ((t.length:Int) - 1)=(t.length:Int) - 1:=by rw [wrap_i64]<;>omega
  simp only [go_sem,bb,e6]
  refine ⟨_,eZ e t t.length,by simp only [go_sem];rfl,?_⟩
  obtain ⟨R,hR⟩:∃ R,pE (eZ e t t.length) ((t.length:Int) - 1)=R:=⟨_,rfl⟩
  rw [show u9 e t=R from hR,hR]
  cases R with
  |i z =>
   simp only [go_sem,fq,fV,gY,gZ,zij,c6,cZ,Mv.bo]
   refine ⟨z,rfl,?_⟩
   exact Z26
  |b x =>
   simp only [go_sem,fq,fV,gY,gZ,zij,c6,cZ,Mv.bo]
   exact Z26
theorem Fc:ti Tryz.prog 209=some ⟨.struct [(0,9,false),(1,9,false),(2,29,false)],4,48,.agg [.str [],.str [],.int .u64 0,.int .u64 0]⟩:=by kernel_rfl
theorem Df:ti Tryz.prog 155=some ⟨.slice 209,1,24,.slice .nil 1 []⟩:=by kernel_rfl
attribute [go_sem] Fc Df
def xO (n:Nd):Prop:=n.op=2→n.v≤1
def okC (t:List Nd):Prop:=t≠[]∧okW t∧BW t∧AllN xO t∧jA t (t.length - 1)=false
def Bj (e:List (VN × Nat)) (t:List Nd):Bool:=(val e t (t.length - 1)).bo
theorem JZ {t:List Nd} {e:List (VN × Nat)} (h:okC t) (he:EK e):okH e t∧u9 e t=val e t (t.length - 1):=by
 obtain ⟨hne,hW,hT,hB,hN⟩:=h
 have hl:0<t.length:=List.length_pos_iff.2 hne
 have hl2:=hW.2.2
 have hve:∀ x∈e,x.2<2^128:=he.2
 refine ⟨⟨by omega,fun i hi=>?_⟩,?_⟩
 ·obtain ⟨g1,g2,g3,g4⟩:=pA hW.1 hi
  refine ⟨g1,g2,by omega,fun h3=>?_⟩
  obtain ⟨ga,gb⟩:=g4.resolve_left (by omega)
  rw [sg ga (by omega),sg gb (by omega)]
  have b1:=Hp hve hW (i:=t[i].a) (by omega)
  have b2:=Hp hve hW (i:=t[i].b) (by omega)
  unfold isN
  omega
 ·unfold u9 pE
  rw [if_neg (by omega),show ((t.length:Int) - 1).toNat=t.length - 1 by omega]
  rfl
end Go.AL
