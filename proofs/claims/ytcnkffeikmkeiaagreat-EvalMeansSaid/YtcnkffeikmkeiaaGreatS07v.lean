/- Contracts and plain laws, a part of the proof; no condition of its own. -/
import Derived.Test.YtcnkffeikmkeiaaGreatE06
import Derived.Test.YtcnkffeikmkeiaaGreatLSyn
set_option maxHeartbeats 32000000
open Go Go.AL Go.Proofs
namespace Go.AL
set_option linter.all false
set_option maxRecDepth 10000
theorem AF:ti Tryz.prog 195=some ⟨.slice 4,1,24,.slice .nil 1 []⟩:=by kernel_rfl
attribute [go_sem] AF
def j8:List AV→AHeap→(AV→Prop)→Prop
 |[.agg l],_,K=>oC l∧K (vv (il l))
 |_,_,_=>False
theorem ph:EntOk Tryz.prog 125 (Ent.pure j8):=by
 refine EntOk.pure fun args H K h=>?_
 unfold j8 at h
 split at h
 rotate_left
 ·exact h.elim
 rename_i l
 obtain ⟨c1,hK⟩:=h
 refine ⟨_,hK,?_⟩
 obtain ⟨v,rfl,hv⟩:=lh c1
 clear hK c1
 rw [cU hv]
 have v1:vv v=.agg [.int .u64 ((v/2^64:Nat):Int),.int .u64 ((v % 2^64:Nat):Int)]:=rfl
 have hbl:∀ i,i<64→(v % 2^64).testBit i=v.testBit i:=fun i hi=>by rw [Nat.testBit_mod_two_pow];simp [hi]
 have hbh:∀ i,(v/2^64).testBit i=v.testBit (i+64):=fun i=>by rw [Nat.testBit_div_two_pow]
 have hx:v/2^64<2^64:=by omega
 have hy:v % 2^64<2^64:=by omega
 rw [v1]
 generalize v/2^64=x at *
 generalize v % 2^64=y at *
 clear v1
 refine ACalls.fW aA TblOk.nil Tryz.func125 [.cell 2 67] (Nat.le_refl _) (T:=au []) (h:=fun hcl hlt=>?_)
 clear hlt
 simp only [go_sem,byq]
 refine gO (A:=Nat) (fun k=>[(4,.int .i64 (k:Int)),(3,.ptr (H.nx+1+1) 0),(1,.ptr H.nx 0),(2,.ptr (H.nx+1) 0)])
  (fun k=>((H.push (.cells (bits v))).push (.cells [.int .u64 0,.int .u64 0])).push (.cells [.int .u64 ((x % 2^k:Nat):Int),.int .u64 ((y % 2^k:Nat):Int)])) (fun k=>k≤64) (fun k=>64 - k) 0 (by omega) ?_ fun k hk=>?_
 ·simp only [bnq,enter,iP,ltF,ne_eq,Nat.reduceEqDiff,reduceCtorEq,Nat.pow_zero,Nat.mod_one,true_or,and_true]
 simp only [go_sem,byq]
 refine aj (fun hc=>?_) (fun hc=>?_)
 ·have hk:k<64:=by simp at hc;omega
  have e1:IntKind.i64.wrap ((k:Int)+64)=((k+64:Nat):Int):=by rw [wrap_i64]<;>omega
  have e2:IntKind.u64.wrap (k:Int)=(k:Int):=by rw [iN]<;>omega
  have e3:IntKind.i64.wrap ((k:Int)+1)=((k+1:Nat):Int):=by rw [wrap_i64]<;>omega
  have g1:=iO v k (by omega)
  have g2:=iO v (k+64) (by omega)
  have e4:yd .u64 1 (k:Int)=(((1 <<< k) % 2^64:Nat):Int):=uC 1 k
  have lx:x % 2^k<2^64:=Nat.lt_of_le_of_lt (Nat.mod_le _ _) hx
  have ly:y % 2^k<2^64:=Nat.lt_of_le_of_lt (Nat.mod_le _ _) hy
  have l1:(1 <<< k) % 2^64<2^64:=Nat.mod_lt _ (by decide)
  have o1:=rZ _ _ lx l1
  have o2:=rZ _ _ ly l1
  have hb1:=hbl k hk
  have hb2:=hbh k
  by_cases c1:v.testBit k=true<;>by_cases c2:v.testBit (k+64)=true
  ·rw [c1] at hb1 g1;rw [c2] at hb2 g2
   rw [nM x k hk hb2] at o1
   rw [nM y k hk hb1] at o2
   simp only [go_sem,zav,byq,e1,e2,e3,e4,Int.toNat_natCast,Nat.zero_add,Nat.mul_one,ca,g1,g2,o1,o2]
   refine ⟨by omega,by omega,by omega,by omega,by omega,by omega,k+1,by omega,by omega,?_⟩
   simp only [bnq,enter,iP,ltF,ne_eq,Nat.reduceEqDiff,reduceCtorEq,true_or,and_self]
  ·have c2:v.testBit (k+64)=false:=by simpa using c2
   rw [c1] at hb1 g1;rw [c2] at hb2 g2
   have o1:=ke x k hb2
   rw [nM y k hk hb1] at o2
   simp only [go_sem,zav,byq,e1,e2,e3,e4,Int.toNat_natCast,Nat.zero_add,Nat.mul_one,ca,g1,g2,o2]
   refine ⟨by omega,by omega,by omega,by omega,by omega,k+1,by omega,by omega,?_⟩
   simp only [bnq,enter,iP,ltF,ne_eq,Nat.reduceEqDiff,reduceCtorEq,o1,true_or,and_self]
  ·have c1:v.testBit k=false:=by simpa using c1
   rw [c1] at hb1 g1;rw [c2] at hb2 g2
   have o2:=ke y k hb1
   rw [nM x k hk hb2] at o1
   simp only [go_sem,zav,byq,e1,e2,e3,e4,Int.toNat_natCast,Nat.zero_add,Nat.mul_one,ca,g1,g2,o1]
   refine ⟨by omega,by omega,by omega,by omega,by omega,k+1,by omega,by omega,?_⟩
   simp only [bnq,enter,iP,ltF,ne_eq,Nat.reduceEqDiff,reduceCtorEq,o2,true_or,and_self]
  ·have c1:v.testBit k=false:=by simpa using c1
   have c2:v.testBit (k+64)=false:=by simpa using c2
   rw [c1] at hb1 g1;rw [c2] at hb2 g2
   have o1:=ke x k hb2
   have o2:=ke y k hb1
   simp only [go_sem,zav,byq,e1,e2,e3,e4,Int.toNat_natCast,Nat.zero_add,Nat.mul_one,ca,g1,g2]
   refine ⟨by omega,by omega,by omega,by omega,k+1,by omega,by omega,?_⟩
   simp only [bnq,enter,iP,ltF,ne_eq,Nat.reduceEqDiff,reduceCtorEq,o1,o2,true_or,and_self]
 ·have hk:k=64:=by simp at hc;omega
  subst hk
  have m1:x % 2^64=x:=Nat.mod_eq_of_lt hx
  have m2:y % 2^64=y:=Nat.mod_eq_of_lt hy
  simp only [go_sem,byq,m1,m2]
  simp (disch:=first|assumption|omega|(simp;done)|(simp;omega)|(simp only [bt,and_true];first|done|omega|(simp;done))) [↓zmk,beq,List.take_of_length_le,List.drop_append,List.take_append,ae,wk,wk2,wk1,wkM,wkL,al,List.drop_eq_nil_of_le,hcl]
def kh:List AV→AHeap→(AV→Prop)→Prop
 |[.int .i64 n],_,K=>K (.int .i64 (max 0 (min n 128)))
 |_,_,_=>False
theorem om:EntOk Tryz.prog 124 (Ent.pure kh):=by
 refine EntOk.pure fun args H K h=>?_
 unfold kh at h
 split at h
 rotate_left
 ·exact h.elim
 rename_i n
 refine ⟨_,h,?_⟩
 clear h
 refine ACalls.fW aA TblOk.nil Tryz.func124 [.tmp 2] (Nat.le_refl _) (T:=au []) (h:=fun hcl hlt=>?_)
 clear hlt
 simp only [go_sem]
 simp (disch:=first|assumption|omega|(simp;done)|(simp;omega)|(simp only [bt,and_true];first|done|omega|(simp;done))) [↓zmk,beq,List.take_of_length_le,List.drop_append,List.take_append,ae,wk,wk2,wk1,wkM,wkL,al,List.drop_eq_nil_of_le,hcl]
/-- the carry into a bit -/
theorem sw {n k:Nat}:ltL n (List.replicate k (.bool false))=True:=eq_true (ltL_iff.2 fun j hj=>by
 rw [List.getElem_replicate,AV.lt]<;>simp)
def tm (x y i:Nat):Bool:=BitVec.carry i (BitVec.ofNat 128 x) (BitVec.ofNat 128 y) false
def b2i (b:Bool):Int:=if b then 1 else 0
theorem xQ (x y:Nat):tm x y 0=false:=by simp [tm,BitVec.carry,Nat.mod_one]
theorem Ch {x y i:Nat} (hx:x<2^128) (hy:y<2^128) (h:i<128):(((b2i (x.testBit i)+b2i (y.testBit i)+b2i (tm x y i)).tmod 2)==1)=((x+y) % 2^128).testBit i∧decide (b2i (x.testBit i)+b2i (y.testBit i)+b2i (tm x y i) > 1)=tm x y (i+1):=by
 have h1:((BitVec.ofNat 128 x)+(BitVec.ofNat 128 y)).getLsbD i=((BitVec.ofNat 128 x).getLsbD i ^^ ((BitVec.ofNat 128 y).getLsbD i ^^ BitVec.carry i (BitVec.ofNat 128 x) (BitVec.ofNat 128 y) false)):=BitVec.getLsbD_add h _ _
 have h2:=BitVec.carry_succ i (BitVec.ofNat 128 x) (BitVec.ofNat 128 y) false
 have h3:((BitVec.ofNat 128 x)+(BitVec.ofNat 128 y)).getLsbD i=((x+y) % 2^128).testBit i:=by
  rw [← BitVec.testBit_toNat,BitVec.toNat_add,BitVec.toNat_ofNat,BitVec.toNat_ofNat,Nat.mod_eq_of_lt hx,Nat.mod_eq_of_lt hy]
 have h4:(BitVec.ofNat 128 x).getLsbD i=x.testBit i:=by rw [← BitVec.testBit_toNat,BitVec.toNat_ofNat,Nat.mod_eq_of_lt hx]
 have h5:(BitVec.ofNat 128 y).getLsbD i=y.testBit i:=by rw [← BitVec.testBit_toNat,BitVec.toNat_ofNat,Nat.mod_eq_of_lt hy]
 unfold tm
 rw [h2,← h3,h1,h4,h5]
 generalize BitVec.carry i (BitVec.ofNat 128 x) (BitVec.ofNat 128 y) false=c
 cases x.testBit i<;>cases y.testBit i<;>cases c<;>decide
def A5 (b0 b1 b2:Bool):Nat→Int
 |0=>0
 |1=>b2i b0
 |2=>b2i b0+b2i b1
 |_=>b2i b0+b2i b1+b2i b2
def vL:List AV→AHeap→(AV→Prop)→Prop
 |[.agg x,.agg y,.bool false,.int .i64 n],_,K=>(oC x∧oC y∧n=128)∧K (.agg (bits ((il x+il y) % 2^128)))
 |_,_,_=>False
theorem BS:EntOk Tryz.prog 168 (Ent.pure vL):=by
 refine EntOk.pure fun args H K h=>?_
 unfold vL at h
 split at h
 rotate_left
 ·exact h.elim
 rename_i x y n
 obtain ⟨⟨c1,c2,rfl⟩,hK⟩:=h
 refine ⟨_,hK,?_⟩
 obtain ⟨x,rfl,hx⟩:=lh c1
 obtain ⟨y,rfl,hy⟩:=lh c2
 clear hK c1 c2
 rw [cU hx,cU hy]
 refine ACalls.fW aA (TblOk.cons om TblOk.nil) Tryz.func168 [.cell 8 239] (Nat.le_refl _) (T:=au [(6,[[],[],[],[],[],[],[],[2,5]])]) (h:=fun hcl hlt=>?_)
 clear hlt
 have sb:=fun i (h:i<128)=>@Ch x y i hx hy h
 generalize hs:(x+y) % 2^128=s at *
 simp only [go_sem]
 refine av (A:=Nat) (fun i=>[(2,.bool (tm x y i)),(3,.int .i64 128),(4,.ptr H.nx 0),(5,.ptr (H.nx+1) 0),(8,.ptr (H.nx+1+1) 0),(9,.ptr (H.nx+1+1+1) 0),(10,.int .i64 (i:Int))])
  (fun i=>(((H.push (.cells (bits x))).push (.cells (bits y))).push (.cells (List.replicate 128 (.bool false)))).push (.cells (bQ s fun j=>decide (j<i)))) (fun i=>i≤128) (fun i=>128 - i) 0 (by omega) ?_ fun i hi=>?_
 ·have e:bQ s (fun j=>decide (j<0))=List.replicate 128 (.bool false):=j0 _ _ fun j _=>by simp
  rw [e,xQ]
  have q1:ltL H.nx (bits x)=True:=cx
  simp only [bkq,enterW,aS,ltF,ne_eq,Nat.reduceEqDiff,reduceCtorEq]
  refine ⟨by simp only [zla];omega,AHeap.Le.refl _,?_,?_,?_⟩
  ·exact ac (ac (ac (ac hcl (by simp [cx])) (by simp [cx])) (by rw [sw];trivial)) (by rw [sw];trivial)
  ·simp [znb,znc,znj,zla];omega
  ·simp [wk2,wk1]
 have hmm:max (0:Int) (min 128 128)=128:=by decide
 have e0:IntKind.i64.wrap ((i:Int)+1)=((i+1:Nat):Int):=by rw [wrap_i64]<;>omega
 have hclo:∀ q,((((H.push (.cells (bits x))).push (.cells (bits y))).push (.cells (List.replicate 128 (.bool false)))).push (.cells (bQ s q))).Closed:=fun q =>
  ac (ac (ac (ac hcl (by simp [cx])) (by simp [cx])) (by rw [sw];trivial)) (by simp [oH])
 simp only [go_sem,kh,hmm]
 refine aj (fun hc=>?_) (fun hc=>?_)
 ·have hi1:i<128:=by simp at hc;omega
  obtain ⟨s1,s2⟩:=sb i hi1
  have gx:=iO x i hi1
  have gy:=iO y i hi1
  have hst:(bQ s fun j=>decide (j<i)).set i (.bool (s.testBit i))=bQ s fun j=>decide (j<i+1):=by
   rw [jd s _ (fun j=>decide (j<i+1)) i (fun j hj=>by rw [decide_eq_decide];omega) (by simp)]
  rw [← s1] at hst
  generalize x.testBit i=b0 at *
  generalize y.testBit i=b1 at *
  generalize tm x y i=b2 at *
  simp only [go_sem,Int.toNat_natCast,ca,gx,gy,Nat.mul_one,Nat.zero_add]
  refine ⟨by omega,by omega,by omega,by omega,?_⟩
  refine av (A:=Nat) (fun k=>[(3,.int .i64 128),(4,.ptr H.nx 0),(5,.ptr (H.nx+1) 0),(8,.ptr (H.nx+1+1) 0),(9,.ptr (H.nx+1+1+1) 0),(10,.int .i64 (i:Int)),(11,.int .i64 (A5 b0 b1 b2 k)),(27,.slice .any 1 [.bool b0,.bool b1,.bool b2]),(28,.int .i64 3),(29,.int .i64 (k:Int))])
   (fun _=>(((H.push (.cells (bits x))).push (.cells (bits y))).push (.cells (List.replicate 128 (.bool false)))).push (.cells (bQ s fun j=>decide (j<i)))) (fun k=>k≤3) (fun k=>3 - k) 0 (by omega) ?_ fun k hk=>?_
  ·refine ⟨by simp only [zla,zkm,zkr];omega,(AHeap.Le.refl _).push _,hclo _,?_,?_⟩
   ·simp [ltF,znb,znc,znj,zla,bT,znq,znr];omega
   ·simp [aS,wk2,wk1,wkM,Fr.get,A5]
  simp only [go_sem]
  refine aj (fun h3=>?_) (fun h3=>?_)
  ·have h3':k<3:=by simp at h3;omega
   have e3:IntKind.i64.wrap ((k:Int)+1)=((k+1:Nat):Int):=by rw [wrap_i64]<;>omega
   have ent:∀ fr:Fr,Fr.get fr 3=.int .i64 128→Fr.get fr 4=.ptr H.nx 0→Fr.get fr 5=.ptr (H.nx+1) 0→Fr.get fr 8=.ptr (H.nx+1+1) 0→Fr.get fr 9=.ptr (H.nx+1+1+1) 0→Fr.get fr 10=.int .i64 (i:Int)→Fr.get fr 11=.int .i64 (A5 b0 b1 b2 (k+1))→Fr.get fr 27=.slice .any 1 [.bool b0,.bool b1,.bool b2]→Fr.get fr 28=.int .i64 3→Fr.get fr 29=.int .i64 ((k+1:Nat):Int) →
    ∃ a':Nat,a'≤3∧3 - a'<3 - k∧enterW H.nx fr ((((H.push (.cells (bits x))).push (.cells (bits y))).push (.cells (List.replicate 128 (.bool false)))).push (.cells (bQ s fun j=>decide (j<i))))
     [(3,.int .i64 128),(4,.ptr H.nx 0),(5,.ptr (H.nx+1) 0),(8,.ptr (H.nx+1+1) 0),(9,.ptr (H.nx+1+1+1) 0),(10,.int .i64 (i:Int)),(11,.int .i64 (A5 b0 b1 b2 a')),(27,.slice .any 1 [.bool b0,.bool b1,.bool b2]),(28,.int .i64 3),(29,.int .i64 (a':Int))]
     ((((H.push (.cells (bits x))).push (.cells (bits y))).push (.cells (List.replicate 128 (.bool false)))).push (.cells (bQ s fun j=>decide (j<i)))):=by
    intro fr q1 q2 q3 q4 q5 q6 q7 q8 q9 q10
    refine ⟨k+1,by omega,by omega,by simp only [zla];omega,AHeap.Le.refl _,hclo _,?_,?_⟩
    ·simp [ltF,znb,znc,znj,zla,bT,znq,znr];omega
    ·simp [aS,wk2,wk1,wkM,q1,q2,q3,q4,q5,q6,q7,q8,q9,q10]
   rcases (by omega:k=0∨k=1∨k=2) with rfl|rfl|rfl
   all_goals
    simp only [go_sem,e3,Int.toNat_natCast,zog]
    refine ⟨by omega,aj (fun hb=>?_) (fun hb=>?_)⟩
    all_goals
     subst hb
     simp only [go_sem,e3]
     refine ent _ rfl rfl rfl rfl rfl rfl ?_ rfl rfl rfl
     simp only [zgk,zgl,ne_eq,Nat.reduceEqDiff,not_false_eq_true]
     first|rfl|(cases b0<;>rfl)|(cases b0<;>cases b1<;>rfl)
  ·have h3':k=3:=by simp at h3;omega
   subst h3'
   have ec:A5 b0 b1 b2 3=b2i b0+b2i b1+b2i b2:=rfl
   simp only [go_sem,Int.toNat_natCast,Nat.mul_one,Nat.zero_add,ec,je,kY,hst,s2,e0,List.length_set]
   refine ⟨by decide,by omega,by omega,i+1,by omega,by omega,?_⟩
   simp only [bkq,enterW,aS,ltF,ne_eq,Nat.reduceEqDiff,reduceCtorEq]
   refine ⟨by simp only [zla];omega,AHeap.Le.refl _,hclo _,?_,?_⟩
   ·simp [znb,znc,znj,zla];omega
   ·simp [wk2,wk1]
 ·have hi1:i=128:=by simp at hc;omega
  subst hi1
  have e:bQ s (fun j=>decide (j<128))=bits s:=lq _ _ fun j hj=>by simp;omega
  have es:splice (List.replicate 128 (.bool false)) 0 (bits s)=bits s:=eu (y:=.junk) (ca s)
  have et:List.take 128 (bits s)=bits s:=List.take_of_length_le (by rw [ca];omega)
  simp only [go_sem,e,es,et,ca,gZ,List.length_replicate]
  simp (disch:=first|assumption|omega|(simp;done)|(simp;omega)|(simp only [bt,and_true];first|done|omega|(simp;done))) [↓zmk,beq,List.take_of_length_le,List.drop_append,List.take_append,ae,wk,wk2,wk1,wkM,wkL,al,List.drop_eq_nil_of_le,hcl,cx]
def r9:List AV→AHeap→(AV→Prop)→Prop
 |[.agg [.int .u64 a,.int .u64 b],.agg [.int .u64 c,.int .u64 d],.int .i64 n],_,K=>(gU a b∧gU c d∧n=128)∧K (vv ((vOf a.toNat b.toNat+vOf c.toNat d.toNat) % 2^128))
 |_,_,_=>False
theorem AR:EntOk Tryz.prog 167 (Ent.pure r9):=by
 refine EntOk.pure fun args H K h=>?_
 unfold r9 at h
 split at h
 rotate_left
 ·exact h.elim
 rename_i a b c d n
 obtain ⟨⟨⟨h0,h1,h2,h3⟩,⟨k0,k1,k2,k3⟩,rfl⟩,hK⟩:=h
 refine ⟨_,hK,?_⟩
 obtain ⟨x,rfl⟩:=bJ h0
 obtain ⟨y,rfl⟩:=bJ h2
 obtain ⟨z,rfl⟩:=bJ k0
 obtain ⟨w,rfl⟩:=bJ k2
 clear hK h0 h2 k0 k2
 simp only [Int.toNat_natCast]
 have hv:=oG (hi:=x) (lo:=y) (by omega) (by omega)
 have hw:=oG (hi:=z) (lo:=w) (by omega) (by omega)
 refine ACalls.fW aA (TblOk.cons mL (TblOk.cons BS (TblOk.cons ph TblOk.nil))) Tryz.func167 [.cell 6 67] (Nat.le_refl _) (T:=au [(1,[[],[0],[],[0,1,2],[],[0,1,2,3],[0,1,2,3,5],[0,1,2,3,5,6]])]) (h:=fun hcl hlt=>?_)
 clear hlt
 generalize hvo:vOf x y=v at *
 generalize hwo:vOf z w=u at *
 have hs:(v+u) % 2^128<2^128:=Nat.mod_lt _ (by decide)
 have b1:=hP hv
 have b2:=hP hw
 have b3:=hP hs
 have u1:=cU hv
 have u2:=cU hw
 have u3:=cU hs
 generalize hso:(v+u) % 2^128=s at *
 simp only [go_sem,j5,vL,j8,gU,Int.toNat_natCast,hvo,hwo,b1,b2,b3,u1,u2,u3,vv,hso]
 refine ⟨by omega,by omega,?_⟩
 simp (disch:=first|assumption|omega|(simp;done)|(simp;omega)|(simp only [bt,and_true];first|done|omega|(simp;done))) [↓zmk,beq,List.take_of_length_le,List.drop_append,List.take_append,ae,wk,wk2,wk1,wkM,wkL,al,List.drop_eq_nil_of_le,hcl]
def oq:List AV→AHeap→(AV→Prop)→Prop
 |[.agg [.int .u64 a,.int .u64 b],.int .i64 n],_,K=>(gU a b∧0≤n∧n≤100)∧K (vv ((vOf a.toNat b.toNat <<< n.toNat) % 2^128))
 |_,_,_=>False
theorem yZ:EntOk Tryz.prog 166 (Ent.pure oq):=by
 refine EntOk.pure fun args H K h=>?_
 unfold oq at h
 split at h
 rotate_left
 ·exact h.elim
 rename_i a b n
 obtain ⟨⟨⟨h0,h1,h2,h3⟩,hn0,hn1⟩,hK⟩:=h
 refine ⟨_,hK,?_⟩
 obtain ⟨x,rfl⟩:=bJ h0
 obtain ⟨y,rfl⟩:=bJ h2
 obtain ⟨n,rfl⟩:=bJ hn0
 clear hK h0 h2 hn0
 simp only [Int.toNat_natCast]
 have hv:=oG (hi:=x) (lo:=y) (by omega) (by omega)
 refine ACalls.fW aA (TblOk.cons mL (TblOk.cons om (TblOk.cons ph TblOk.nil))) Tryz.func166 [.cell 4 67] (Nat.le_refl _) (T:=au []) (h:=fun hcl hlt=>?_)
 clear hlt
 generalize hvo:vOf x y=v at *
 have hs:(v <<< n) % 2^128<2^128:=Nat.mod_lt _ (by decide)
 have hbit:∀ i,i<128→((v <<< n) % 2^128).testBit i=(decide (n≤i)&&v.testBit (i - n)):=fun i hi=>by
  rw [Nat.testBit_mod_two_pow,Nat.testBit_shiftLeft];simp [hi]
 have b3:=hP hs
 have u3:=cU hs
 generalize hso:(v <<< n) % 2^128=s at *
 have hmm:max (0:Int) (min (n:Int) 128)=(n:Int):=by omega
 have hsp:splice (List.replicate 128 (.bool false)) 0 (bits v)=bits v:=eu (y:=.junk) (ca v)
 have hclo:∀ q,((((((H.push (.cells [.int .u64 (x:Int),.int .u64 (y:Int)])).push (.cells [.int .u64 0,.int .u64 0])).push (.cells (bits v))).push (.cells (bQ s q))))).Closed:=fun q =>
  ac (ac (ac (ac hcl (by simp [znq,znr,znb])) (by simp [znq,znr,znb])) (by simp [cx])) (by simp [oH])
 simp only [go_sem,j5,kh,gU,Int.toNat_natCast,hvo,hmm,hsp,ca,gZ,List.length_replicate,Nat.le_refl]
 refine ⟨by omega,?_⟩
 refine av (A:=Nat) (fun i=>[(1,.int .i64 (n:Int)),(4,.ptr (H.nx+1) 0),(5,.ptr (H.nx+1+1) 0),(6,.ptr (H.nx+1+1+1) 0),(7,.int .i64 (i:Int))])
  (fun i=>((((H.push (.cells [.int .u64 (x:Int),.int .u64 (y:Int)])).push (.cells [.int .u64 0,.int .u64 0])).push (.cells (bits v))).push (.cells (bQ s fun j=>decide (j<i))))) (fun i=>n≤i∧i≤128) (fun i=>128 - i) n (by omega) ?_ fun i hi=>?_
 ·have e:bQ s (fun j=>decide (j<n))=List.replicate 128 (.bool false):=by
   have:bQ s (fun j=>decide (j<n))=bQ s (fun _=>false):=by
    unfold bQ
    refine List.map_congr_left fun j hj=>?_
    have hj:=List.mem_range.1 hj
    have hjj:(decide (j<n)&&s.testBit j)=(false&&s.testBit j):=by
     by_cases h:j<n
     ·rw [hbit j hj,show decide (n≤j)=false from decide_eq_false (by omega)]
      simp only [Bool.false_and,Bool.and_false]
     ·rw [show decide (j<n)=false from decide_eq_false h]
    rw [hjj]
   rw [this]
   exact j0 _ _ fun j _=>rfl
  have hc0:=hclo fun j=>decide (j<n)
  rw [e] at hc0 ⊢
  simp only [bkq,enterW,aS,ltF,ne_eq,Nat.reduceEqDiff,reduceCtorEq]
  refine ⟨by simp only [zla];omega,AHeap.Le.refl _,hc0,?_,?_⟩
  ·simp [znb,znc,znj,zla]
   try omega
  ·simp [wk2,wk1]
 obtain ⟨hi0,hi1⟩:=hi
 simp only [go_sem]
 refine aj (fun hc=>?_) (fun hc=>?_)
 ·have hi2:i<128:=by simp at hc;omega
  have e0:IntKind.i64.wrap ((i:Int)+1)=((i+1:Nat):Int):=by rw [wrap_i64]<;>omega
  have e1:IntKind.i64.wrap ((i:Int) - (n:Int))=((i - n:Nat):Int):=by rw [wrap_i64]<;>omega
  have g1:=iO v (i - n) (by omega)
  have hb:=hbit i hi2
  rw [show decide (n≤i)=true by simpa using hi0,Bool.true_and] at hb
  rw [← hb] at g1
  have hst:(bQ s fun j=>decide (j<i)).set i (.bool (s.testBit i))=bQ s fun j=>decide (j<i+1):=by
   rw [jd s _ (fun j=>decide (j<i+1)) i (fun j hj=>by rw [decide_eq_decide];omega) (by simp)]
  simp only [go_sem,Int.toNat_natCast,ca,e0,e1,g1,Nat.mul_one,Nat.zero_add,je,kY,hst,List.length_set]
  refine ⟨by omega,by omega,by omega,by omega,i+1,by omega,by omega,?_⟩
  simp only [bkq,enterW,aS,ltF,ne_eq,Nat.reduceEqDiff,reduceCtorEq]
  refine ⟨by simp only [zla];omega,AHeap.Le.refl _,hclo _,?_,?_⟩
  ·simp [znb,znc,znj,zla]
   try omega
  ·simp [wk2,wk1]
 ·have hi2:i=128:=by simp at hc;omega
  subst hi2
  have e:bQ s (fun j=>decide (j<128))=bits s:=lq _ _ fun j hj=>by simp;omega
  have et:List.take 128 (bits s)=bits s:=List.take_of_length_le (by rw [ca];omega)
  simp only [go_sem,e,et,ca,j8,b3,u3,vv]
  simp (disch:=first|assumption|omega|(simp;done)|(simp;omega)|(simp only [bt,and_true];first|done|omega|(simp;done))) [↓zmk,beq,List.take_of_length_le,List.drop_append,List.take_append,ae,wk,wk2,wk1,wkM,wkL,al,List.drop_eq_nil_of_le,hcl]
end Go.AL
