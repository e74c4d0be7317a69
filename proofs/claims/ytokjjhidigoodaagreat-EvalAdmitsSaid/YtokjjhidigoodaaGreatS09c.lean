/- Contracts and plain laws, a part of the proof; no condition of its own. -/
import Derived.Test.YtokjjhidigoodaaGreatS08i
import Derived.Test.YtokjjhidigoodaaGreatLEval
set_option maxHeartbeats 32000000
open List renaming length_cons → yaz, length_nil → yba, take_of_length_le → ybc, drop_append → ybd, take_append → ybe, drop_eq_nil_of_le → ybf, getD_cons_zero → yau, take_succ_cons → yaq, take_zero → yar, drop_succ_cons → yao, drop_zero → yap
open Go Go.AL Go.Proofs
namespace Go.AL
set_option linter.all false
set_option maxRecDepth 10000
theorem nE:ti Tryz.prog 201=some ⟨.struct [(0,198,false)],3,24,.agg [.int .u64 0,.int .u64 0,.int .u64 0]⟩:=by kernel_rfl
theorem sE:ti Tryz.prog 194=some ⟨.bool,1,1,.bool false⟩:=by kernel_rfl
theorem G2:ti Tryz.prog 193=some ⟨.iface 1,1,16,.nili⟩:=by kernel_rfl
theorem EK:ti Tryz.prog 191=some ⟨.slice 193,1,24,.slice .nil 1 []⟩:=by kernel_rfl
theorem GP:ti Tryz.prog 206=some ⟨.struct [(0,9,false),(1,9,false),(2,48,false)],4,48,.agg [.str [],.str [],.int .u64 0,.int .u64 0]⟩:=by kernel_rfl
theorem DR:ti Tryz.prog 98=some ⟨.slice 206,1,24,.slice .nil 1 []⟩:=by kernel_rfl
attribute [go_sem] nE sE G2 EK GP DR
def mAV:Mv→AV
 |.i z=>.iface 201 (nAV z)
 |.b x=>.iface 194 (.bool x)
def gA (x:VN × Nat):AV:=.agg [.str x.1.1,.str x.1.2,.int .u64 ((x.2/2^64:Nat):Int),.int .u64 ((x.2 % 2^64:Nat):Int)]
def aN (l:List (VN × Nat)):List AV:=l.map gA
theorem aC {l:List (VN × Nat)}:(aN l).length=l.length:=by simp [aN]
theorem rH {l:List (VN × Nat)} {k:Nat} (h:k<l.length):(aN l).getD k .junk=.agg [.str l[k].1.1,.str l[k].1.2,.int .u64 ((l[k].2/2^64:Nat):Int),.int .u64 ((l[k].2 % 2^64:Nat):Int)]:=by
 simp [aN,gA,List.getD_eq_getElem?_getD,h]
theorem ax {n:Nat} {m:Mark} {l:List (VN × Nat)}:AV.lt n (.slice m 4 (aN l))=∀ id,m=.own id→id<n:=by
 rw [AV.lt]
 refine propext ⟨fun h=>h.1,fun h=>⟨h,fun j hj=>?_⟩⟩
 simp only [aN,List.getElem_map,gA]
 simp [znn,znq,znr,znd,znb]
def dN:List AV→AHeap→(AV→Prop)→Prop
 |[x],_,K=>∃ z,x=nAV z∧K (.bool false)
 |_,_,_=>False
theorem ul:EntOk Tryz.prog 532 (Ent.pure dN):=by
 refine EntOk.pure fun args H K h=>?_
 unfold dN at h
 split at h
 rotate_left
 ·exact h.elim
 obtain ⟨z,rfl,hK⟩:=h
 refine ⟨_,hK,?_⟩
 clear hK
 refine ACalls.fW aB TblOk.nil Tryz.func532 [.tmp 2] (Nat.le_refl _) (T:=aA []) (h:=fun hcl hlt=>?_)
 clear hlt
 simp only [go_sem,nAV]
 exact Z0
def dO:List AV→AHeap→(AV→Prop)→Prop
 |[.bool x],_,K=>K (.bool x)
 |_,_,_=>False
theorem ud:EntOk Tryz.prog 407 (Ent.pure dO):=by
 refine EntOk.pure fun args H K h=>?_
 unfold dO at h
 split at h
 rotate_left
 ·exact h.elim
 refine ⟨_,h,?_⟩
 clear h
 refine ACalls.fW aB TblOk.nil Tryz.func407 [.tmp 2] (Nat.le_refl _) (T:=aA []) (h:=fun hcl hlt=>?_)
 clear hlt
 simp only [go_sem]
 exact Z0
theorem zl:nAV 0=.agg [.int .u64 0,.int .u64 0,.int .u64 0]:=by rfl
theorem sw:(194=201)=False:=eq_false (by decide)
def t7:List AV→AHeap→(AV→Prop)→Prop
 |[x],_,K=>∃ m,x=mAV m∧K (nAV m.num)
 |_,_,_=>False
theorem rX:EntOk Tryz.prog 289 (Ent.pure t7):=by
 refine EntOk.pure fun args H K h=>?_
 unfold t7 at h
 split at h
 rotate_left
 ·exact h.elim
 obtain ⟨m,rfl,hK⟩:=h
 refine ⟨_,hK,?_⟩
 clear hK
 cases m with
 |i z =>
  refine ACalls.fW aB TblOk.nil Tryz.func289 [.cell 2 198] (Nat.le_refl _) (T:=aA []) (h:=fun hcl hlt=>?_)
  clear hlt
  simp only [go_sem,mAV,Mv.num,gl,nE,if_true,nAV]
  exact Z0
 |b x =>
  refine ACalls.fW aB TblOk.nil Tryz.func289 [.cell 2 198] (Nat.le_refl _) (T:=aA []) (h:=fun hcl hlt=>?_)
  clear hlt
  simp only [go_sem,mAV,Mv.num,zl,gl,nE,sw]
  exact Z0
def uQ (e:List (VN × Nat)):Prop:=e.length<4611686018427387904∧∀ x∈e,x.2<340282366920938463463374607431768211456
def wF:List AV→AHeap→(AV→Prop)→Prop
 |[x,.slice _ 4 y],_,K=>∃ n e,(x=jD n∧y=aN e∧uQ e)∧K (nAV (jY e (n.name,n.attr)))
 |_,_,_=>False
theorem iM {y x:VN} {v:Nat} {l:List (VN × Nat)}:jY ((y,v)::l) x=if y=x then (v:Int) else jY l x:=rfl
theorem Bi:EntOk Tryz.prog 129 (Ent.pure wF):=by
 refine EntOk.pure fun args H K h=>?_
 unfold wF at h
 split at h
 rotate_left
 ·exact h.elim
 rename_i x m y
 obtain ⟨n,e,⟨rfl,rfl,hl,hv⟩,hK⟩:=h
 obtain ⟨Q,hQ⟩:∃ Q,jY e (n.name,n.attr)=Q:=⟨_,rfl⟩
 rw [hQ] at hK
 refine ⟨_,hK,?_⟩
 clear hK
 refine ACalls.fW aB (TblOk.cons z9 (TblOk.cons Hu TblOk.nil)) Tryz.func129 [.cell 4 198] (Nat.le_refl _) (T:=aA []) (h:=fun hcl hlt=>?_)
 have hm:∀ n',H.nx≤n'→AV.lt n' (.slice m 4 (aN e)):=fun n' hn=>AV.lt_mono hn _ (hlt (.slice m 4 (aN e)) (by simp))
 clear hlt
 simp only [go_sem,jD,aC]
 refine ay (A:=Nat) (fun j=>[(2,.ptr H.nx 0),(4,.ptr (H.nx+1) 0),(7,.slice m 4 (aN e)),(8,.int .i64 (e.length:Int)),(9,.int .i64 (j:Int))])
  (fun _=>(H.push (.cells [.int .i64 (n.op:Int),.int .i64 (n.a:Int),.int .i64 (n.b:Int),.str n.name,.str n.attr,.int .u64 ((n.v/2^64:Nat):Int),.int .u64 ((n.v % 2^64:Nat):Int)])).push (.cells [.int .u64 0,.int .u64 0,.int .u64 0])) (fun j=>j≤e.length∧jY (e.drop j) (n.name,n.attr)=Q) (fun j=>e.length - j) 0 ⟨Nat.zero_le _,hQ⟩ ?_ fun j hj=>?_
 ·exact Z49
 obtain ⟨hj,hq⟩:=hj
 simp only [go_sem]
 refine aq (fun hc=>?_) (fun hc=>?_)
 ·have hj1:j<e.length:=by simp at hc;omega
  have e5:IntKind.i64.wrap ((j:Int)+1)=((j+1:Nat):Int):=by rw [wrap_i64]<;>omega
  have hne:(H.nx=H.nx+2)=False:=eq_false (by omega)
  have hv1:e[j].2<340282366920938463463374607431768211456:=hv e[j] (List.getElem_mem hj1)
  rw [List.drop_eq_getElem_cons hj1] at hq
  have hz:((((e[j].2/2^64:Nat):Int)*2^64+((e[j].2 % 2^64:Nat):Int):Int))=(e[j].2:Int):=by omega
  simp only [go_sem,aC,rH hj1,Int.toNat_natCast,hne,e5]
  refine ⟨by omega,fun h1=>?_,fun h1=>?_⟩
  ·cases h2:(e[j].1.2==n.attr)
   ·have hx:¬ (e[j].1=(n.name,n.attr)):=fun h=>by rw [h] at h2;simp at h2
    rw [show e[j]=(e[j].1,e[j].2) from rfl,iM,if_neg hx] at hq
    simp only [go_sem,h2]
    refine ⟨j+1,⟨by omega,hq⟩,by omega,?_⟩
    exact Z49
   ·have hx:e[j].1=(n.name,n.attr):=Prod.ext (eq_of_beq h1) (eq_of_beq h2)
    rw [show e[j]=(e[j].1,e[j].2) from rfl,iM,if_pos hx] at hq
    subst hq
    simp only [go_sem,h2,sA,hz,nAV]
    refine ⟨by omega,?_⟩
    exact Z0
  ·have hx:¬ (e[j].1=(n.name,n.attr)):=fun h=>by rw [h] at h1;simp at h1
   rw [show e[j]=(e[j].1,e[j].2) from rfl,iM,if_neg hx] at hq
   refine ⟨j+1,⟨by omega,hq⟩,by omega,?_⟩
   exact Z49
 ·have hj1:j=e.length:=by simp at hc;omega
  subst hj1
  rw [List.drop_length] at hq
  have hq':0=Q:=hq
  subst hq'
  simp only [go_sem,BP,zl]
  refine ⟨by omega,?_⟩
  exact Z0
end Go.AL
open Go Go.AL Go.Proofs
namespace Go.AL
set_option linter.all false
set_option maxRecDepth 10000
theorem qn {a b:Int}:decide (jm a b<0)=decide (a<b):=by unfold jm;split<;>(try split)<;>simp<;>omega
theorem pD {a b:Int}:decide (jm a b≤0)=decide (a≤b):=by unfold jm;split<;>(try split)<;>simp<;>omega
theorem p8 {a b:Int}:decide (0<jm a b)=decide (b<a):=by unfold jm;split<;>(try split)<;>simp<;>omega
theorem pW {a b:Int}:decide (0≤jm a b)=decide (b≤a):=by unfold jm;split<;>(try split)<;>simp<;>omega
def oO (op:Nat) (a b:Int):Option Mv :=
 if op=4 then some (.i (-a)) else if op=6 then some (.i (a+b)) else if op=7 then some (.i (a - b))
 else if op=10 then some (.b (decide (a<b))) else if op=11 then some (.b (decide (a≤b))) else if op=12 then some (.b (decide (b<a))) else if op=13 then some (.b (decide (b≤a))) else none
def uo:Option Mv→AV
 |some m=>.tup [mAV m,.bool true]
 |none=>.tup [.nili,.bool false]
def Bj:List AV→AHeap→(AV→Prop)→Prop
 |[.int .i64 z,x,y],_,K=>∃ op a b,(z=((op:Nat):Int)∧op<100∧x=nAV a∧y=nAV b∧isN a∧isN b∧isN (a - b))∧K (uo (oO op a b))
 |_,_,_=>False
theorem IQ:EntOk Tryz.prog 288 (Ent.pure Bj):=by
 refine EntOk.pure fun args H K h=>?_
 unfold Bj at h
 split at h
 rotate_left
 ·exact h.elim
 rename_i z x y
 obtain ⟨op,a,b,⟨rfl,ho,rfl,rfl,ha,hb,hc⟩,hK⟩:=h
 refine ⟨_,hK,?_⟩
 clear hK
 refine ACalls.fW aB (TblOk.cons Cp (TblOk.cons xZ (TblOk.cons BJ (TblOk.cons zh TblOk.nil)))) Tryz.func288 [.tmp 6,.tmp 7] (Nat.le_refl _) (T:=aA []) (h:=fun hcl hlt=>?_)
 clear hlt
 rcases (by omega:op=4∨op=6∨op=7∨op=10∨op=11∨op=12∨op=13∨(op≠4∧op≠6∧op≠7∧op≠10∧op≠11∧op≠12∧op≠13)) with h|h|h|h|h|h|h|h
 ·have hi:(op:Int)=4:=by omega
  have hs:oO op a b=some (.i (-a)):=by subst h;rfl
  simp only [go_sem,nAV,hs,uo,mAV,Bx,hi,Int.reduceBEq]
  refine ⟨a,rfl,?_⟩
  exact Z0
 ·have hi:(op:Int)=6:=by omega
  have hs:oO op a b=some (.i (a+b)):=by subst h;rfl
  simp only [go_sem,nAV,hs,uo,mAV,yf,hi,Int.reduceBEq]
  refine ⟨a,b,⟨rfl,rfl⟩,?_⟩
  exact Z0
 ·have hi:(op:Int)=7:=by omega
  have hs:oO op a b=some (.i (a - b)):=by subst h;rfl
  simp only [go_sem,nAV,hs,uo,mAV,xB,hi,Int.reduceBEq]
  refine ⟨a,b,⟨rfl,rfl⟩,?_⟩
  exact Z0
 ·have hi:(op:Int)=10:=by omega
  have hs:oO op a b=some (.b (decide (a<b))):=by subst h;rfl
  simp only [go_sem,nAV,hs,uo,mAV,i6,hi,Int.reduceBEq]
  refine ⟨a,b,⟨rfl,rfl,ha,hb,hc⟩,?_⟩
  simp only [go_sem,nAV,qn,pD,p8,pW]
  exact Z0
 ·have hi:(op:Int)=11:=by omega
  have hs:oO op a b=some (.b (decide (a≤b))):=by subst h;rfl
  simp only [go_sem,nAV,hs,uo,mAV,i6,hi,Int.reduceBEq]
  refine ⟨a,b,⟨rfl,rfl,ha,hb,hc⟩,?_⟩
  simp only [go_sem,nAV,qn,pD,p8,pW]
  exact Z0
 ·have hi:(op:Int)=12:=by omega
  have hs:oO op a b=some (.b (decide (b<a))):=by subst h;rfl
  simp only [go_sem,nAV,hs,uo,mAV,i6,hi,Int.reduceBEq]
  refine ⟨a,b,⟨rfl,rfl,ha,hb,hc⟩,?_⟩
  simp only [go_sem,nAV,qn,pD,p8,pW]
  exact Z0
 ·have hi:(op:Int)=13:=by omega
  have hs:oO op a b=some (.b (decide (b≤a))):=by subst h;rfl
  simp only [go_sem,nAV,hs,uo,mAV,i6,hi,Int.reduceBEq]
  refine ⟨a,b,⟨rfl,rfl,ha,hb,hc⟩,?_⟩
  simp only [go_sem,nAV,qn,pD,p8,pW]
  exact Z0
 ·obtain ⟨h1,h2,h3,h4,h5,h6,h7⟩:=h
  have d1:((op:Int)==4)=false:=beq_eq_false_iff_ne.2 (by omega)
  have d2:((op:Int)==6)=false:=beq_eq_false_iff_ne.2 (by omega)
  have d3:((op:Int)==7)=false:=beq_eq_false_iff_ne.2 (by omega)
  have d4:((op:Int)==10)=false:=beq_eq_false_iff_ne.2 (by omega)
  have d5:((op:Int)==11)=false:=beq_eq_false_iff_ne.2 (by omega)
  have d6:((op:Int)==12)=false:=beq_eq_false_iff_ne.2 (by omega)
  have d7:((op:Int)==13)=false:=beq_eq_false_iff_ne.2 (by omega)
  have hs:oO op a b=none:=by simp [oO,h1,h2,h3,h4,h5,h6,h7]
  simp only [go_sem,nAV,hs,uo,d1,d2,d3,d4,d5,d6,d7]
  exact Z0
theorem gG {z:Int}:mAV (.i z)=.iface 201 (nAV z):=rfl
theorem fX {x:Bool}:mAV (.b x)=.iface 194 (.bool x):=rfl
def yV:List AV→AHeap→(AV→Prop)→Prop
 |[x,y],_,K=>∃ a b,(x=mAV a∧y=mAV b∧isN a.num∧isN b.num)∧K (.bool (mEq a b))
 |_,_,_=>False
theorem LH : mth Tryz.prog 201 "matchguard/eval.holds" = some 532 := by kernel_rfl
theorem Lo : mth Tryz.prog 194 "matchguard/eval.holds" = some 407 := by kernel_rfl
theorem iF {v : AV} : De Tryz.prog "matchguard/eval.holds" (.iface 201 v) = .func (.func 532) [] [] := uC LH
theorem iG {v : AV} : De Tryz.prog "matchguard/eval.holds" (.iface 194 v) = .func (.func 407) [] [] := uC Lo
theorem Dr:EntOk Tryz.prog 290 (Ent.pure yV):=by
 refine EntOk.pure fun args H K h=>?_
 unfold yV at h
 split at h
 rotate_left
 ·exact h.elim
 rename_i x y
 obtain ⟨a,b,⟨rfl,rfl,ha,hb⟩,hK⟩:=h
 refine ⟨_,hK,?_⟩
 clear hK
 refine ACalls.fW aB (TblOk.cons rX (TblOk.cons ud (TblOk.cons ul TblOk.nil))) Tryz.func290 [.tmp 4] (Nat.le_refl _) (T:=aA []) (h:=fun hcl hlt=>?_)
 clear hlt
 cases a with
 |i z =>
  have hq:((w0 z==w0 b.num)&&((w1 z==w1 b.num)&&(w2 z==w2 b.num)))=decide (z=b.num):=LM ha hb
  have hz:mEq (.i z) b=decide (z=b.num):=rfl
  simp only [go_sem,gG,gl,nE,sE,sw,if_true,nAV,hz]
  refine ⟨b,rfl,?_⟩
  simp only [go_sem,nAV,Iq,Jv,hq,Bool.bne_false]
  exact Z0
 |b x =>
  cases b with
  |i z =>
   simp only [go_sem,gG,fX,gl,nE,sE,sw,if_true,nAV,mEq,Mv.bo,iF,iG,zif,dO,dN,Bool.bne_false]
   refine ⟨z,rfl,?_⟩
   exact Z0
  |b y =>
   simp only [go_sem,gG,fX,gl,nE,sE,sw,if_true,nAV,mEq,Mv.bo,iF,iG,zif,dO,dN,Bool.bne_false]
   exact Z0
/-- what the method answers -/
theorem ID {op:Nat} {a b v:Mv} (h:oO op a.num b.num=some v):opV op a b=v:=by
 unfold oO at h;unfold opV
 repeat' split at h
 all_goals first|(cases h;simp_all;done)|(cases h)
def BM:List AV→AHeap→(AV→Prop)→Prop
 |[.int .i64 z,x,y],_,K=>∃ op a b,(z=((op:Nat):Int)∧3<op∧op<100∧x=mAV a∧y=mAV b∧isN a.num∧isN b.num∧isN (a.num - b.num))∧K (mAV (opV op a b))
 |_,_,_=>False
theorem Ho {op:Nat} {a b:Int} (h:oO op a b=none):op≠4∧op≠6∧op≠7∧op≠10∧op≠11∧op≠12∧op≠13:=by
 unfold oO at h
 repeat' split at h
 all_goals first|(cases h;done)|omega
theorem Hb:EntOk Tryz.prog 130 (Ent.pure BM):=by
 refine EntOk.pure fun args H K h=>?_
 unfold BM at h
 split at h
 rotate_left
 ·exact h.elim
 rename_i z x y
 obtain ⟨op,a,b,⟨rfl,h3,ho,rfl,rfl,ha,hb,hc⟩,hK⟩:=h
 refine ⟨_,hK,?_⟩
 clear hK
 refine ACalls.fW aB (TblOk.cons rX (TblOk.cons IQ (TblOk.cons Dr (TblOk.cons ud (TblOk.cons ul TblOk.nil))))) Tryz.func130 [.tmp 6] (Nat.le_refl _) (T:=aA []) (h:=fun hcl hlt=>?_)
 clear hlt
 simp only [go_sem]
 refine ⟨a,rfl,?_⟩
 simp only [go_sem]
 refine ⟨b,rfl,?_⟩
 simp only [go_sem,Bj]
 refine ⟨op,a.num,b.num,⟨rfl,ho,rfl,rfl,ha,hb,hc⟩,?_⟩
 cases hs:oO op a.num b.num with
 |some v =>
  have hv:=ID hs
  simp only [go_sem,uo,hv]
  cases v<;>simp (disch:=first|exact Zd|omega) [↓zmk,beq,ybc,ybd,ybe,ag,wk,wk2,wk1,wkM,wkL,au,ybf,hcl,mAV,nAV]
 |none =>
  obtain ⟨h4,h6,h7,h10,h11,h12,h13⟩:=Ho hs
  simp only [go_sem,uo]
  rcases (by omega:op=8∨op=9∨op=5∨op=14∨op=15∨(op≠8∧op≠9∧op≠5∧op≠14∧op≠15)) with h|h|h|h|h|h
  ·have hi:(op:Int)=8:=by omega
   have hv:opV op a b=.b (mEq a b):=by subst h;rfl
   simp only [go_sem,hi,Int.reduceBEq,hv,fX]
   refine ⟨a,b,⟨rfl,rfl,ha,hb⟩,?_⟩
   simp only [go_sem]
   exact Z0
  ·have hi:(op:Int)=9:=by omega
   have hv:opV op a b=.b (!mEq a b):=by subst h;rfl
   simp only [go_sem,hi,Int.reduceBEq,hv,fX]
   refine ⟨a,b,⟨rfl,rfl,ha,hb⟩,?_⟩
   simp only [go_sem]
   exact Z0
  ·have hi:(op:Int)=5:=by omega
   have hv:opV op a b=.b (!a.bo):=by subst h;rfl
   rw [hv]
   cases a with
   |i z =>
    simp only [go_sem,hi,Int.reduceBEq,fX,gG,iF,iG,zif,dO,dN,Mv.bo]
    refine ⟨z,rfl,?_⟩
    exact Z0
   |b x =>
    simp only [go_sem,hi,Int.reduceBEq,fX,gG,iF,iG,zif,dO,dN,Mv.bo]
    exact Z0
  ·have hi:(op:Int)=14:=by omega
   have hv:opV op a b=.b (a.bo&&b.bo):=by subst h;rfl
   rw [hv]
   cases a with
   |i z =>
    cases b with
    |i w =>
     simp only [go_sem,hi,Int.reduceBEq,fX,gG,iF,iG,zif,dO,dN,Mv.bo]
     refine ⟨z,rfl,?_⟩
     exact Z0
    |b y =>
     simp only [go_sem,hi,Int.reduceBEq,fX,gG,iF,iG,zif,dO,dN,Mv.bo]
     refine ⟨z,rfl,?_⟩
     exact Z0
   |b x =>
    cases b with
    |i w =>
     simp only [go_sem,hi,Int.reduceBEq,fX,gG,iF,iG,zif,dO,dN,Mv.bo]
     refine ⟨fun hx=>⟨w,rfl,?_⟩,fun hx=>?_⟩<;>simp (disch:=first|exact Zd|omega) [↓zmk,beq,ybc,ybd,ybe,ag,wk,wk2,wk1,wkM,wkL,au,ybf,hcl,hx]
    |b y =>
     simp only [go_sem,hi,Int.reduceBEq,fX,gG,iF,iG,zif,dO,dN,Mv.bo]
     refine ⟨fun hx=>?_,fun hx=>?_⟩<;>simp (disch:=first|exact Zd|omega) [↓zmk,beq,ybc,ybd,ybe,ag,wk,wk2,wk1,wkM,wkL,au,ybf,hcl,hx]
  ·have hi:(op:Int)=15:=by omega
   have hv:opV op a b=.b (a.bo||b.bo):=by subst h;rfl
   rw [hv]
   cases a with
   |i z =>
    cases b with
    |i w =>
     simp only [go_sem,hi,Int.reduceBEq,fX,gG,iF,iG,zif,dO,dN,Mv.bo]
     refine ⟨z,rfl,w,rfl,?_⟩
     exact Z0
    |b y =>
     simp only [go_sem,hi,Int.reduceBEq,fX,gG,iF,iG,zif,dO,dN,Mv.bo]
     refine ⟨z,rfl,?_⟩
     exact Z0
   |b x =>
    cases b with
    |i w =>
     simp only [go_sem,hi,Int.reduceBEq,fX,gG,iF,iG,zif,dO,dN,Mv.bo]
     refine ⟨fun hx=>?_,fun hx=>⟨w,rfl,?_⟩⟩<;>simp (disch:=first|exact Zd|omega) [↓zmk,beq,ybc,ybd,ybe,ag,wk,wk2,wk1,wkM,wkL,au,ybf,hcl,hx]
    |b y =>
     simp only [go_sem,hi,Int.reduceBEq,fX,gG,iF,iG,zif,dO,dN,Mv.bo]
     refine ⟨fun hx=>?_,fun hx=>?_⟩<;>simp (disch:=first|exact Zd|omega) [↓zmk,beq,ybc,ybd,ybe,ag,wk,wk2,wk1,wkM,wkL,au,ybf,hcl,hx]
  ·obtain ⟨x1,x2,x3,x4,x5⟩:=h
   have d1:((op:Int)==8)=false:=beq_eq_false_iff_ne.2 (by omega)
   have d2:((op:Int)==9)=false:=beq_eq_false_iff_ne.2 (by omega)
   have d3:((op:Int)==5)=false:=beq_eq_false_iff_ne.2 (by omega)
   have d4:((op:Int)==14)=false:=beq_eq_false_iff_ne.2 (by omega)
   have d5:((op:Int)==15)=false:=beq_eq_false_iff_ne.2 (by omega)
   have hv:opV op a b=.b (!a.bo||b.bo):=by simp [opV,h4,h6,h7,h10,h11,h12,h13,x1,x2,x3,x4,x5]
   rw [hv]
   cases a with
   |i z =>
    cases b with
    |i w =>
     simp only [go_sem,d1,d2,d3,d4,d5,fX,gG,iF,iG,zif,dO,dN,Mv.bo]
     refine ⟨z,rfl,?_⟩
     exact Z0
    |b y =>
     simp only [go_sem,d1,d2,d3,d4,d5,fX,gG,iF,iG,zif,dO,dN,Mv.bo]
     refine ⟨z,rfl,?_⟩
     exact Z0
   |b x =>
    cases b with
    |i w =>
     simp only [go_sem,d1,d2,d3,d4,d5,fX,gG,iF,iG,zif,dO,dN,Mv.bo]
     refine ⟨fun hx=>?_,fun hx=>⟨w,rfl,?_⟩⟩<;>simp (disch:=first|exact Zd|omega) [↓zmk,beq,ybc,ybd,ybe,ag,wk,wk2,wk1,wkM,wkL,au,ybf,hcl,hx]
    |b y =>
     simp only [go_sem,d1,d2,d3,d4,d5,fX,gG,iF,iG,zif,dO,dN,Mv.bo]
     refine ⟨fun hx=>?_,fun hx=>?_⟩<;>simp (disch:=first|exact Zd|omega) [↓zmk,beq,ybc,ybd,ybe,ag,wk,wk2,wk1,wkM,wkL,au,ybf,hcl,hx]
end Go.AL
open Go Go.AL Go.Proofs
namespace Go.AL
set_option linter.all false
set_option maxRecDepth 10000
theorem B8:ti Tryz.prog 48=some ⟨.struct [(0,46,false),(1,46,false)],2,16,.agg [.int .u64 0,.int .u64 0]⟩:=by kernel_rfl
attribute [go_sem] B8
theorem yQ {a b c d:Int}:teq Tryz.prog 9 48 (.agg [.int .u64 a,.int .u64 b]) (.agg [.int .u64 c,.int .u64 d])=some ((a==c)&&((b==d)&&true)):=by
 have g1:Tryz.prog.stoodInHeld 48=false:=by kernel_rfl
 simp [B8,teq,teq.go,teq.part,sv,ceq,g1,TD.agg]
theorem yP:Tryz.prog.eqGuardType Tryz.prog.depth 48=false:=by kernel_rfl
def mvs (l:List Mv):List AV:=l.map mAV
theorem cy {l:List Mv}:(mvs l).length=l.length:=by simp [mvs]
theorem Jp {l:List Mv} {k:Nat} (h:k<l.length):(mvs l).getD k .junk=mAV (l.getD k (.b false)):=by
 simp [mvs,List.getD_eq_getElem?_getD,h]
theorem AW {l:List Mv} {m:Mv}:mvs l++[mAV m]=mvs (l++[m]):=by simp [mvs]
theorem KX {n:Nat} {m:Mv}:AV.lt n (mAV m):=by cases m<;>simp [mAV,nAV,znm,znn,znq,znr,znb,znc]
theorem qX {m:Mv}:(mAV m).cells=[mAV m]:=by cases m<;>rfl
theorem JE {m:Mv}:(mAV m).one=true:=by cases m<;>rfl
theorem I2 {m:Mv}:bI (mAV m).cells=true:=by cases m<;>rfl
def qs (l:List Mv) (i:Int):Mv:=if i<0 then .b false else l.getD i.toNat (.b false)
def JP:List AV→AHeap→(AV→Prop)→Prop
 |[.int .i64 i,.ptr c 0],H,K=>∃ mk l,H.get c=some (.cells [.slice mk 1 (mvs l)])∧K (mAV (qs l i))
 |_,_,_=>False
theorem Kk:EntOk Tryz.prog 127 (Ent.pure JP):=by
 refine EntOk.pure fun args H K h=>?_
 unfold JP at h
 split at h
 rotate_left
 ·exact h.elim
 rename_i i c
 obtain ⟨mk,l,hg,hK⟩:=h
 refine ⟨_,hK,?_⟩
 clear hK
 refine ACalls.fW aB TblOk.nil Tryz.func127 [.tmp 3] (Nat.le_refl _) (T:=aA []) (h:=fun hcl hlt=>?_)
 clear hlt
 have hcs:=av (cs:=[.slice mk 1 (mvs l)]) hg
 by_cases h0:i<0
 ·have d1:decide (i<0)=true:=decide_eq_true h0
  have hv:qs l i=.b false:=by unfold qs;rw [if_pos h0]
  simp only [go_sem,hcs,d1,hv,fX]
  exact Z0
 ·have d1:decide (i<0)=false:=decide_eq_false h0
  by_cases h1:(l.length:Int)≤i
  ·have d2:decide ((l.length:Int)≤i)=true:=decide_eq_true h1
   have hv:qs l i=.b false:=by
    unfold qs;rw [if_neg h0,List.getD_eq_getElem?_getD,List.getElem?_eq_none (by omega)];rfl
   simp only [go_sem,hcs,d1,hv,fX,cy,d2]
   exact Z0
  ·have d2:decide ((l.length:Int)≤i)=false:=decide_eq_false h1
   have hi:i.toNat<l.length:=by omega
   have hv:qs l i=l.getD i.toNat (.b false):=by unfold qs;rw [if_neg h0]
   simp only [go_sem,hcs,d1,hv,cy,d2,Jp hi]
   refine ⟨by omega,by rw [qX];exact Nat.one_pos,?_⟩
   simp only [qX,yau]
   generalize l.getD i.toNat (.b false)=r
   cases r<;>simp (disch:=first|exact Zd|omega) [↓zmk,beq,ybc,ybd,ybe,ag,wk,wk2,wk1,wkM,wkL,au,ybf,hcl,mAV,nAV]
theorem KJ {n:Nat} {m:Mark} {l:List Mv}:AV.lt n (.slice m 1 (mvs l))=∀ id,m=.own id→id<n:=by
 rw [AV.lt]
 refine propext ⟨fun h=>h.1,fun h=>⟨h,fun j hj=>?_⟩⟩
 simp only [mvs,List.getElem_map]
 exact KX
theorem LR {H:AHeap} (hcl:H.Closed) (k:Nat) (l:List Mv):((H.push (.cells [.slice (.own (H.nx+1)) 1 (mvs l)])).push (.buf 1 k)).Closed:=by
 have h1:=ai (i:=H.nx) (cs:=[.slice (.own (H.nx+1)) 1 (mvs l)]) (af (a:=1) (b:=k) (ae (cs:=[]) hcl trivial)) (by
  simp only [znq,znr,and_true,zla]
  rw [KJ]
  intro id hi
  injection hi with hi
  omega)
 simp only [go_sem] at h1
 exact h1
theorem Ma {n f c:Nat} (h:c<n):AV.lt n (.func (.func f) [] [.ptr c 0]):=by
 rw [AV.lt]
 refine ⟨fun j hj=>absurd hj (by simp),fun j hj=>?_⟩
 have:j=0:=by simpa using hj
 subst this
 simpa [znj] using h
/-- a tree that Holds may walk: every node's meaning is a number whose sign is bE -/
def okH (e:List (VN × Nat)) (t:List Nd):Prop:=t.length<100000∧∀ i (h:i<t.length),1≤t[i].op∧t[i].op≤16∧t[i].v<340282366920938463463374607431768211456∧(3<t[i].op→isN ((e9 e t i).getD t[i].a (.b false)).num∧isN ((e9 e t i).getD t[i].b (.b false)).num∧isN (((e9 e t i).getD t[i].a (.b false)).num - ((e9 e t i).getD t[i].b (.b false)).num))
def s7 (e:List (VN × Nat)) (t:List Nd):Mv:=qs (e9 e t t.length) ((t.length:Int) - 1)
def qm:List AV→AHeap→(AV→Prop)→Prop
 |[.slice _ 7 x,.slice _ 4 y],_,K=>∃ t e,(x=nds t∧y=aN e∧okH e t∧uQ e)∧K (.bool (s7 e t).bo)
 |_,_,_=>False
theorem wK:EntOk Tryz.prog 55 (Ent.pure qm):=by
 refine EntOk.pure fun args H K h=>?_
 unfold qm at h
 split at h
 rotate_left
 ·exact h.elim
 rename_i m x m2 y
 obtain ⟨t,e,⟨rfl,rfl,⟨ht,hn⟩,hb⟩,hK⟩:=h
 refine ⟨_,hK,?_⟩
 clear hK
 refine ACalls.fW aB (TblOk.cons Kk (TblOk.cons z9 (TblOk.cons qY (TblOk.cons Bi (TblOk.cons Hb (TblOk.cons ud (TblOk.cons ul TblOk.nil))))))) Tryz.func55 [.tmp 4] (Nat.le_refl _) (T:=aA [(9,[[],[],[],[2],[],[],[2,3],[0,2,3],[0,2,3]]),(11,[[],[],[],[],[],[],[2,3],[0,2,3],[0,2,3]]),(13,[[],[],[],[1],[],[],[1,3],[0,1,3],[0,1,3]]),(7,[[],[],[],[],[],[],[5],[],[],[],[5,6,9],[2,5,6,9,10],[2,5,6,9,10,11],[0,2,5,6,9,10,11],[0,2,5,6,9,10,11]]),(3,[[1]])]) (h:=fun hcl hlt=>?_)
 have hm:∀ n',H.nx≤n'→AV.lt n' (.slice m 7 (nds t)):=fun n' hn=>AV.lt_mono hn _ (hlt (.slice m 7 (nds t)) (by simp))
 have hm2:∀ n',H.nx≤n'→AV.lt n' (.slice m2 4 (aN e)):=fun n' hn=>AV.lt_mono hn _ (hlt (.slice m2 4 (aN e)) (by simp))
 clear hlt
 have hF:∀ n',H.nx+1≤n'→AV.lt n' (.func (.func 127) [] [.ptr H.nx 0]):=fun n' hn=>Ma (by omega)
 have hcH:=fun k l=>LR hcl k l
 simp only [go_sem]
 refine EA 5 0 1 (cs:=[AV.slice .nil 1 []]) rfl (by simp only [go_sem]) rfl ?_
 simp only [bhq,Nat.reduceMod,Nat.reduceDiv,bc,bf,bg,bX,bh,bV,bQ,bT,bU,yaq,yar,yao,yap,go_sem,aF,List.set_cons_zero]
 refine ay (A:=Nat) (fun k=>[(0,.slice m 7 (nds t)),(1,.slice m2 4 (aN e)),(5,.ptr H.nx 0),(6,.func (.func 127) [] [.ptr H.nx 0]),(10,.slice m 7 (nds t)),(11,.int .i64 (t.length:Int)),(12,.int .i64 (k:Int))])
  (fun k=>(H.push (.cells [.slice (.own (H.nx+1)) 1 (mvs (e9 e t k))])).push (.buf 1 k)) (fun k=>k≤t.length) (fun k=>t.length - k) 0 (Nat.zero_le _) ?_ fun k hk=>?_
 ·exact Z50
 simp only [go_sem]
 refine aq (fun hc=>?_) (fun hc=>?_)
 ·have hk1:k<t.length:=by simp at hc;omega
  have e5:IntKind.i64.wrap ((k:Int)+1)=((k+1:Nat):Int):=by rw [wrap_i64]<;>omega
  obtain ⟨o1,o2,hv1,hnum⟩:=hn k hk1
  have hvk:e9 e t (k+1)=e9 e t k++[h9 e (e9 e t k) t[k]]:=by
   rw [e9,show t.getD k default=t[k] by simp [List.getD_eq_getElem?_getD,hk1]]
  obtain ⟨L,hL⟩:∃ L,e9 e t k=L:=⟨_,rfl⟩
  rw [hL] at hvk hnum
  have hLl:L.length=k:=by rw [← hL,li]
  have hgk:=cM hk1
  have hb1:t[k].v % 2^64<18446744073709551616:=Nat.mod_lt _ (by decide)
  have hz:((((t[k].v/2^64:Nat):Int)*2^64+((t[k].v % 2^64:Nat):Int):Int))=(t[k].v:Int):=by omega
  have hfo0:mvs L++[mAV (h9 e L t[k])]=mvs (e9 e t (k+1)):=by rw [hvk,AW]
  rcases (by omega:t[k].op=1∨t[k].op=2∨t[k].op=3∨3<t[k].op) with c|c|c|c
  ·have d1:((t[k].op:Int)==1)=true:=by rw [c];rfl
   have hw:h9 e L t[k]=.i t[k].v:=by unfold h9;rw [if_pos c]
   have hfo:=hfo0
   rw [hw,gG,nAV] at hfo
   simp only [go_sem,hL,aF,hgk,d1,Int.toNat_natCast,sA,hz,nAV]
   refine ⟨by omega,by omega,?_⟩
   refine ⟨⟨by rw [cy,hLl],by rw [cy];omega,by rw [cy];omega,fun z hz=>?_⟩,k+1,by omega,by omega,?_⟩
   ·rw [List.mem_singleton.1 hz];rfl
   simp only [hfo,cy,hLl,e5]
   exact Z50
  ·have d1:((t[k].op:Int)==1)=false:=by rw [c];rfl
   have d2:((t[k].op:Int)==2)=true:=by rw [c];rfl
   have hvq:(((t[k].v/2^64:Nat):Int)==0&&((t[k].v % 2^64:Nat):Int)==1)=decide (t[k].v=1):=by
    rw [Bool.eq_iff_iff];simp only [Bool.and_eq_true,beq_iff_eq,decide_eq_true_eq];omega
   have hw:h9 e L t[k]=.b (decide (t[k].v=1)):=by unfold h9;rw [if_neg (by omega),if_pos c]
   have hfo:=hfo0
   rw [hw,fX] at hfo
   simp only [go_sem,hL,aF,hgk,d1,d2,Int.toNat_natCast,rD,yQ,yP,Bool.bne_false,Bool.and_true,hvq]
   refine ⟨by omega,?_⟩
   refine ⟨⟨by rw [cy,hLl],by rw [cy];omega,by rw [cy];omega,fun z hz=>?_⟩,k+1,by omega,by omega,?_⟩
   ·rw [List.mem_singleton.1 hz];rfl
   simp only [hfo,cy,hLl,e5]
   exact Z50
  ·have d1:((t[k].op:Int)==1)=false:=by rw [c];rfl
   have d2:((t[k].op:Int)==2)=false:=by rw [c];rfl
   have d3:((t[k].op:Int)==3)=true:=by rw [c];rfl
   have hw:h9 e L t[k]=.i (jY e (t[k].name,t[k].attr)):=by unfold h9;rw [if_neg (by omega),if_neg (by omega),if_pos c]
   have hfo:=hfo0
   rw [hw,gG,nAV] at hfo
   simp only [go_sem,hL,aF,hgk,d1,d2,d3,Int.toNat_natCast]
   refine ⟨by omega,t[k],e,⟨rfl,rfl,hb⟩,?_⟩
   simp only [go_sem,nAV]
   refine ⟨⟨by rw [cy,hLl],by rw [cy];omega,by rw [cy];omega,fun z hz=>?_⟩,k+1,by omega,by omega,?_⟩
   ·rw [List.mem_singleton.1 hz];rfl
   simp only [hfo,cy,hLl,e5]
   exact Z50
  ·have d1:((t[k].op:Int)==1)=false:=beq_eq_false_iff_ne.2 (by omega)
   have d2:((t[k].op:Int)==2)=false:=beq_eq_false_iff_ne.2 (by omega)
   have d3:((t[k].op:Int)==3)=false:=beq_eq_false_iff_ne.2 (by omega)
   have hw:h9 e L t[k]=opV t[k].op (L.getD t[k].a (.b false)) (L.getD t[k].b (.b false)):=by unfold h9;rw [if_neg (by omega),if_neg (by omega),if_neg (by omega)]
   have hga:qs L (t[k].a:Int)=L.getD t[k].a (.b false):=by unfold qs;rw [if_neg (by omega),Int.toNat_natCast]
   have hgb:qs L (t[k].b:Int)=L.getD t[k].b (.b false):=by unfold qs;rw [if_neg (by omega),Int.toNat_natCast]
   obtain ⟨n1,n2,n3⟩:=hnum c
   have hfo:=hfo0
   rw [hw] at hfo
   simp only [go_sem,hL,aF,hgk,d1,d2,d3,Int.toNat_natCast]
   refine ⟨by omega,?_⟩
   refine ⟨_,L,by simp only [go_sem];rfl,?_⟩
   simp only [go_sem,hga,hgb]
   refine ⟨_,L,by simp only [go_sem];rfl,?_⟩
   simp only [go_sem,hga,hgb]
   refine ⟨t[k].op,_,_,⟨rfl,c,by omega,rfl,rfl,n1,n2,n3⟩,?_⟩
   simp only [go_sem,hga,hgb,qX,JE]
   refine ⟨⟨by rw [cy,hLl],by rw [cy];omega,by rw [cy];omega,fun z hz=>?_⟩,k+1,by omega,by omega,?_⟩
   ·rw [List.mem_singleton.1 hz];exact I2
   simp only [hfo,cy,hLl,e5]
   exact Z50
 ·have hk1:k=t.length:=by simp at hc;omega
  subst hk1
  have e6:IntKind.i64.wrap ((t.length:Int) - 1)=(t.length:Int) - 1:=by rw [wrap_i64]<;>omega
  simp only [go_sem,aF,e6]
  refine ⟨_,e9 e t t.length,by simp only [go_sem];rfl,?_⟩
  obtain ⟨R,hR⟩:∃ R,qs (e9 e t t.length) ((t.length:Int) - 1)=R:=⟨_,rfl⟩
  rw [show s7 e t=R from hR,hR]
  cases R with
  |i z =>
   simp only [go_sem,fX,gG,iF,iG,zif,dO,dN,Mv.bo]
   refine ⟨z,rfl,?_⟩
   exact Z51
  |b x =>
   simp only [go_sem,fX,gG,iF,iG,zif,dO,dN,Mv.bo]
   exact Z51
end Go.AL
