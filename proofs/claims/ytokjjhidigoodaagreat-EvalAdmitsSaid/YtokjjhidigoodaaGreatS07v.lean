/- Contracts and plain laws, a part of the proof; no condition of its own. -/
import Derived.Test.YtokjjhidigoodaaGreatE06
import Derived.Test.YtokjjhidigoodaaGreatLSyn
set_option maxHeartbeats 32000000
open Go Go.AL Go.Proofs
namespace Go.AL
set_option linter.all false
set_option maxRecDepth 10000
theorem FQ:ti Tryz.prog 175=some ⟨.slice 4,1,24,.slice .nil 1 []⟩:=by kernel_rfl
attribute [go_sem] FQ
def nQ:List AV→AHeap→(AV→Prop)→Prop
 |[.agg l],_,K=>qU l∧K (vv (j0 l))
 |_,_,_=>False
theorem uq:EntOk Tryz.prog 141 (Ent.pure nQ):=by
 refine EntOk.pure fun args H K h=>?_
 unfold nQ at h
 split at h
 rotate_left
 ·exact h.elim
 rename_i l
 obtain ⟨c1,hK⟩:=h
 refine ⟨_,hK,?_⟩
 obtain ⟨v,rfl,hv⟩:=l7 c1
 clear hK c1
 rw [dy hv]
 have v1:vv v=.agg [.int .u64 ((v/2^64:Nat):Int),.int .u64 ((v % 2^64:Nat):Int)]:=rfl
 have hbl:∀ i,i<64→(v % 2^64).testBit i=v.testBit i:=fun i hi=>by rw [Nat.testBit_mod_two_pow];simp [hi]
 have hbh:∀ i,(v/2^64).testBit i=v.testBit (i+64):=fun i=>by rw [Nat.testBit_div_two_pow]
 have hx:v/2^64<2^64:=by omega
 have hy:v % 2^64<2^64:=by omega
 rw [v1]
 generalize v/2^64=x at *
 generalize v % 2^64=y at *
 clear v1
 refine ACalls.fW aB TblOk.nil Tryz.func141 [.cell 2 48] (Nat.le_refl _) (T:=aA []) (h:=fun hcl hlt=>?_)
 clear hlt
 simp only [go_sem,byq]
 refine gU (A:=Nat) (fun k=>[(4,.int .i64 (k:Int)),(3,.ptr (H.nx+1+1) 0),(1,.ptr H.nx 0),(2,.ptr (H.nx+1) 0)])
  (fun k=>((H.push (.cells (bits v))).push (.cells [.int .u64 0,.int .u64 0])).push (.cells [.int .u64 ((x % 2^k:Nat):Int),.int .u64 ((y % 2^k:Nat):Int)])) (fun k=>k≤64) (fun k=>64 - k) 0 (by omega) ?_ fun k hk=>?_
 ·exact Z18
 simp only [go_sem,byq]
 refine aq (fun hc=>?_) (fun hc=>?_)
 ·have hk:k<64:=by simp at hc;omega
  have e1:IntKind.i64.wrap ((k:Int)+64)=((k+64:Nat):Int):=by rw [wrap_i64]<;>omega
  have e2:IntKind.u64.wrap (k:Int)=(k:Int):=by rw [cL]<;>omega
  have e3:IntKind.i64.wrap ((k:Int)+1)=((k+1:Nat):Int):=by rw [wrap_i64]<;>omega
  have g1:=ju v k (by omega)
  have g2:=ju v (k+64) (by omega)
  have e4:u7 .u64 1 (k:Int)=(((1 <<< k) % 2^64:Nat):Int):=lG 1 k
  have lx:x % 2^k<2^64:=Nat.lt_of_le_of_lt (Nat.mod_le _ _) hx
  have ly:y % 2^k<2^64:=Nat.lt_of_le_of_lt (Nat.mod_le _ _) hy
  have l1:(1 <<< k) % 2^64<2^64:=Nat.mod_lt _ (by decide)
  have o1:=l5 _ _ lx l1
  have o2:=l5 _ _ ly l1
  have hb1:=hbl k hk
  have hb2:=hbh k
  by_cases c1:v.testBit k=true<;>by_cases c2:v.testBit (k+64)=true
  ·rw [c1] at hb1 g1;rw [c2] at hb2 g2
   rw [kP x k hk hb2] at o1
   rw [kP y k hk hb1] at o2
   simp only [go_sem,zav,byq,e1,e2,e3,e4,Int.toNat_natCast,Nat.zero_add,Nat.mul_one,co,g1,g2,o1,o2]
   refine ⟨by omega,by omega,by omega,by omega,by omega,by omega,k+1,by omega,by omega,?_⟩
   exact Z19
  ·have c2:v.testBit (k+64)=false:=by simpa using c2
   rw [c1] at hb1 g1;rw [c2] at hb2 g2
   have o1:=ig x k hb2
   rw [kP y k hk hb1] at o2
   simp only [go_sem,zav,byq,e1,e2,e3,e4,Int.toNat_natCast,Nat.zero_add,Nat.mul_one,co,g1,g2,o2]
   refine ⟨by omega,by omega,by omega,by omega,by omega,k+1,by omega,by omega,?_⟩
   exact Z20
  ·have c1:v.testBit k=false:=by simpa using c1
   rw [c1] at hb1 g1;rw [c2] at hb2 g2
   have o2:=ig y k hb1
   rw [kP x k hk hb2] at o1
   simp only [go_sem,zav,byq,e1,e2,e3,e4,Int.toNat_natCast,Nat.zero_add,Nat.mul_one,co,g1,g2,o1]
   refine ⟨by omega,by omega,by omega,by omega,by omega,k+1,by omega,by omega,?_⟩
   exact Z21
  ·have c1:v.testBit k=false:=by simpa using c1
   have c2:v.testBit (k+64)=false:=by simpa using c2
   rw [c1] at hb1 g1;rw [c2] at hb2 g2
   have o1:=ig x k hb2
   have o2:=ig y k hb1
   simp only [go_sem,zav,byq,e1,e2,e3,e4,Int.toNat_natCast,Nat.zero_add,Nat.mul_one,co,g1,g2]
   refine ⟨by omega,by omega,by omega,by omega,k+1,by omega,by omega,?_⟩
   exact Z22
 ·have hk:k=64:=by simp at hc;omega
  subst hk
  have m1:x % 2^64=x:=Nat.mod_eq_of_lt hx
  have m2:y % 2^64=y:=Nat.mod_eq_of_lt hy
  simp only [go_sem,byq,m1,m2]
  exact Z17
def nK:List AV→AHeap→(AV→Prop)→Prop
 |[.int .i64 n],_,K=>K (.int .i64 (max 0 (min n 128)))
 |_,_,_=>False
theorem uj:EntOk Tryz.prog 140 (Ent.pure nK):=by
 refine EntOk.pure fun args H K h=>?_
 unfold nK at h
 split at h
 rotate_left
 ·exact h.elim
 rename_i n
 refine ⟨_,h,?_⟩
 clear h
 refine ACalls.fW aB TblOk.nil Tryz.func140 [.tmp 2] (Nat.le_refl _) (T:=aA []) (h:=fun hcl hlt=>?_)
 clear hlt
 simp only [go_sem]
 exact Z17
/-- the carry into a bit -/
theorem wU {n k:Nat}:ltL n (List.replicate k (.bool false))=True:=eq_true (ltL_iff.2 fun j hj=>by
 rw [List.getElem_replicate,AV.lt]<;>simp)
def zx (x y i:Nat):Bool:=BitVec.carry i (BitVec.ofNat 128 x) (BitVec.ofNat 128 y) false
def b2i (b:Bool):Int:=if b then 1 else 0
theorem Er (x y:Nat):zx x y 0=false:=by simp [zx,BitVec.carry,Nat.mod_one]
theorem Jw {x y i:Nat} (hx:x<2^128) (hy:y<2^128) (h:i<128):(((b2i (x.testBit i)+b2i (y.testBit i)+b2i (zx x y i)).tmod 2)==1)=((x+y) % 2^128).testBit i∧decide (b2i (x.testBit i)+b2i (y.testBit i)+b2i (zx x y i) > 1)=zx x y (i+1):=by
 have h1:((BitVec.ofNat 128 x)+(BitVec.ofNat 128 y)).getLsbD i=((BitVec.ofNat 128 x).getLsbD i ^^ ((BitVec.ofNat 128 y).getLsbD i ^^ BitVec.carry i (BitVec.ofNat 128 x) (BitVec.ofNat 128 y) false)):=BitVec.getLsbD_add h _ _
 have h2:=BitVec.carry_succ i (BitVec.ofNat 128 x) (BitVec.ofNat 128 y) false
 have h3:((BitVec.ofNat 128 x)+(BitVec.ofNat 128 y)).getLsbD i=((x+y) % 2^128).testBit i:=by
  rw [← BitVec.testBit_toNat,BitVec.toNat_add,BitVec.toNat_ofNat,BitVec.toNat_ofNat,Nat.mod_eq_of_lt hx,Nat.mod_eq_of_lt hy]
 have h4:(BitVec.ofNat 128 x).getLsbD i=x.testBit i:=by rw [← BitVec.testBit_toNat,BitVec.toNat_ofNat,Nat.mod_eq_of_lt hx]
 have h5:(BitVec.ofNat 128 y).getLsbD i=y.testBit i:=by rw [← BitVec.testBit_toNat,BitVec.toNat_ofNat,Nat.mod_eq_of_lt hy]
 unfold zx
 rw [h2,← h3,h1,h4,h5]
 generalize BitVec.carry i (BitVec.ofNat 128 x) (BitVec.ofNat 128 y) false=c
 cases x.testBit i<;>cases y.testBit i<;>cases c<;>decide
def Gz (b0 b1 b2:Bool):Nat→Int
 |0=>0
 |1=>b2i b0
 |2=>b2i b0+b2i b1
 |_=>b2i b0+b2i b1+b2i b2
def AZ:List AV→AHeap→(AV→Prop)→Prop
 |[.agg x,.agg y,.bool false,.int .i64 n],_,K=>(qU x∧qU y∧n=128)∧K (.agg (bits ((j0 x+j0 y) % 2^128)))
 |_,_,_=>False
theorem JI:EntOk Tryz.prog 516 (Ent.pure AZ):=by
 refine EntOk.pure fun args H K h=>?_
 unfold AZ at h
 split at h
 rotate_left
 ·exact h.elim
 rename_i x y n
 obtain ⟨⟨c1,c2,rfl⟩,hK⟩:=h
 refine ⟨_,hK,?_⟩
 obtain ⟨x,rfl,hx⟩:=l7 c1
 obtain ⟨y,rfl,hy⟩:=l7 c2
 clear hK c1 c2
 rw [dy hx,dy hy]
 refine ACalls.fW aB (TblOk.cons uj TblOk.nil) Tryz.func516 [.cell 8 215] (Nat.le_refl _) (T:=aA [(6,[[],[],[],[],[],[],[],[2,5]])]) (h:=fun hcl hlt=>?_)
 clear hlt
 have sb:=fun i (h:i<128)=>@Jw x y i hx hy h
 generalize hs:(x+y) % 2^128=s at *
 simp only [go_sem]
 refine ay (A:=Nat) (fun i=>[(2,.bool (zx x y i)),(3,.int .i64 128),(4,.ptr H.nx 0),(5,.ptr (H.nx+1) 0),(8,.ptr (H.nx+1+1) 0),(9,.ptr (H.nx+1+1+1) 0),(10,.int .i64 (i:Int))])
  (fun i=>(((H.push (.cells (bits x))).push (.cells (bits y))).push (.cells (List.replicate 128 (.bool false)))).push (.cells (cI s fun j=>decide (j<i)))) (fun i=>i≤128) (fun i=>128 - i) 0 (by omega) ?_ fun i hi=>?_
 ·have e:cI s (fun j=>decide (j<0))=List.replicate 128 (.bool false):=mP _ _ fun j _=>by simp
  rw [e,Er]
  have q1:ltL H.nx (bits x)=True:=dB
  simp only [bkq,enterW,aI,ltF,ne_eq,Nat.reduceEqDiff,reduceCtorEq]
  refine ⟨by simp only [zla];omega,AHeap.Le.refl _,?_,?_,?_⟩
  ·exact ae (ae (ae (ae hcl (by simp [dB])) (by simp [dB])) (by rw [wU];trivial)) (by rw [wU];trivial)
  ·simp [znb,znc,znj,zla];omega
  ·simp [wk2,wk1]
 have hmm:max (0:Int) (min 128 128)=128:=by decide
 have e0:IntKind.i64.wrap ((i:Int)+1)=((i+1:Nat):Int):=by rw [wrap_i64]<;>omega
 have hclo:∀ q,((((H.push (.cells (bits x))).push (.cells (bits y))).push (.cells (List.replicate 128 (.bool false)))).push (.cells (cI s q))).Closed:=fun q =>
  ae (ae (ae (ae hcl (by simp [dB])) (by simp [dB])) (by rw [wU];trivial)) (by simp [uN])
 simp only [go_sem,nK,hmm]
 refine aq (fun hc=>?_) (fun hc=>?_)
 ·have hi1:i<128:=by simp at hc;omega
  obtain ⟨s1,s2⟩:=sb i hi1
  have gx:=ju x i hi1
  have gy:=ju y i hi1
  have hst:(cI s fun j=>decide (j<i)).set i (.bool (s.testBit i))=cI s fun j=>decide (j<i+1):=by
   rw [lR s _ (fun j=>decide (j<i+1)) i (fun j hj=>by rw [decide_eq_decide];omega) (by simp)]
  rw [← s1] at hst
  generalize x.testBit i=b0 at *
  generalize y.testBit i=b1 at *
  generalize zx x y i=b2 at *
  simp only [go_sem,Int.toNat_natCast,co,gx,gy,Nat.mul_one,Nat.zero_add]
  refine ⟨by omega,by omega,by omega,by omega,?_⟩
  refine ay (A:=Nat) (fun k=>[(3,.int .i64 128),(4,.ptr H.nx 0),(5,.ptr (H.nx+1) 0),(8,.ptr (H.nx+1+1) 0),(9,.ptr (H.nx+1+1+1) 0),(10,.int .i64 (i:Int)),(11,.int .i64 (Gz b0 b1 b2 k)),(27,.slice .any 1 [.bool b0,.bool b1,.bool b2]),(28,.int .i64 3),(29,.int .i64 (k:Int))])
   (fun _=>(((H.push (.cells (bits x))).push (.cells (bits y))).push (.cells (List.replicate 128 (.bool false)))).push (.cells (cI s fun j=>decide (j<i)))) (fun k=>k≤3) (fun k=>3 - k) 0 (by omega) ?_ fun k hk=>?_
  ·refine ⟨by simp only [zla,zkm,zkr];omega,(AHeap.Le.refl _).push _,hclo _,?_,?_⟩
   ·simp [ltF,znb,znc,znj,zla,aM,znq,znr];omega
   ·simp [aI,wk2,wk1,wkM,Fr.get,Gz]
  simp only [go_sem]
  refine aq (fun h3=>?_) (fun h3=>?_)
  ·have h3':k<3:=by simp at h3;omega
   have e3:IntKind.i64.wrap ((k:Int)+1)=((k+1:Nat):Int):=by rw [wrap_i64]<;>omega
   have ent:∀ fr:Fr,Fr.get fr 3=.int .i64 128→Fr.get fr 4=.ptr H.nx 0→Fr.get fr 5=.ptr (H.nx+1) 0→Fr.get fr 8=.ptr (H.nx+1+1) 0→Fr.get fr 9=.ptr (H.nx+1+1+1) 0→Fr.get fr 10=.int .i64 (i:Int)→Fr.get fr 11=.int .i64 (Gz b0 b1 b2 (k+1))→Fr.get fr 27=.slice .any 1 [.bool b0,.bool b1,.bool b2]→Fr.get fr 28=.int .i64 3→Fr.get fr 29=.int .i64 ((k+1:Nat):Int) →
    ∃ a':Nat,a'≤3∧3 - a'<3 - k∧enterW H.nx fr ((((H.push (.cells (bits x))).push (.cells (bits y))).push (.cells (List.replicate 128 (.bool false)))).push (.cells (cI s fun j=>decide (j<i))))
     [(3,.int .i64 128),(4,.ptr H.nx 0),(5,.ptr (H.nx+1) 0),(8,.ptr (H.nx+1+1) 0),(9,.ptr (H.nx+1+1+1) 0),(10,.int .i64 (i:Int)),(11,.int .i64 (Gz b0 b1 b2 a')),(27,.slice .any 1 [.bool b0,.bool b1,.bool b2]),(28,.int .i64 3),(29,.int .i64 (a':Int))]
     ((((H.push (.cells (bits x))).push (.cells (bits y))).push (.cells (List.replicate 128 (.bool false)))).push (.cells (cI s fun j=>decide (j<i)))):=by
    intro fr q1 q2 q3 q4 q5 q6 q7 q8 q9 q10
    refine ⟨k+1,by omega,by omega,by simp only [zla];omega,AHeap.Le.refl _,hclo _,?_,?_⟩
    ·simp [ltF,znb,znc,znj,zla,aM,znq,znr];omega
    ·simp [aI,wk2,wk1,wkM,q1,q2,q3,q4,q5,q6,q7,q8,q9,q10]
   rcases (by omega:k=0∨k=1∨k=2) with rfl|rfl|rfl
   all_goals
    simp only [go_sem,e3,Int.toNat_natCast,zog]
    refine ⟨by omega,aq (fun hb=>?_) (fun hb=>?_)⟩
    all_goals
     subst hb
     simp only [go_sem,e3]
     refine ent _ rfl rfl rfl rfl rfl rfl ?_ rfl rfl rfl
     simp only [zgk,zgl,ne_eq,Nat.reduceEqDiff,not_false_eq_true]
     first|rfl|(cases b0<;>rfl)|(cases b0<;>cases b1<;>rfl)
  ·have h3':k=3:=by simp at h3;omega
   subst h3'
   have ec:Gz b0 b1 b2 3=b2i b0+b2i b1+b2i b2:=rfl
   simp only [go_sem,Int.toNat_natCast,Nat.mul_one,Nat.zero_add,ec,iZ,oV,hst,s2,e0,List.length_set]
   refine ⟨by decide,by omega,by omega,i+1,by omega,by omega,?_⟩
   simp only [bkq,enterW,aI,ltF,ne_eq,Nat.reduceEqDiff,reduceCtorEq]
   refine ⟨by simp only [zla];omega,AHeap.Le.refl _,hclo _,?_,?_⟩
   ·simp [znb,znc,znj,zla];omega
   ·simp [wk2,wk1]
 ·have hi1:i=128:=by simp at hc;omega
  subst hi1
  have e:cI s (fun j=>decide (j<128))=bits s:=pi _ _ fun j hj=>by simp;omega
  have es:splice (List.replicate 128 (.bool false)) 0 (bits s)=bits s:=gm (y:=.junk) (co s)
  have et:List.take 128 (bits s)=bits s:=List.take_of_length_le (by rw [co];omega)
  simp only [go_sem,e,es,et,co,jg,List.length_replicate]
  simp (disch:=first|exact Zd|omega) [↓zmk,beq,List.take_of_length_le,List.drop_append,List.take_append,ag,wk,wk2,wk1,wkM,wkL,au,List.drop_eq_nil_of_le,hcl,dB]
def yj:List AV→AHeap→(AV→Prop)→Prop
 |[.agg [.int .u64 a,.int .u64 b],.agg [.int .u64 c,.int .u64 d],.int .i64 n],_,K=>(kq a b∧kq c d∧n=128)∧K (vv ((vOf a.toNat b.toNat+vOf c.toNat d.toNat) % 2^128))
 |_,_,_=>False
theorem Fz:EntOk Tryz.prog 515 (Ent.pure yj):=by
 refine EntOk.pure fun args H K h=>?_
 unfold yj at h
 split at h
 rotate_left
 ·exact h.elim
 rename_i a b c d n
 obtain ⟨⟨⟨h0,h1,h2,h3⟩,⟨k0,k1,k2,k3⟩,rfl⟩,hK⟩:=h
 refine ⟨_,hK,?_⟩
 obtain ⟨x,rfl⟩:=cf h0
 obtain ⟨y,rfl⟩:=cf h2
 obtain ⟨z,rfl⟩:=cf k0
 obtain ⟨w,rfl⟩:=cf k2
 clear hK h0 h2 k0 k2
 simp only [Int.toNat_natCast]
 have hv:=qR (hi:=x) (lo:=y) (by omega) (by omega)
 have hw:=qR (hi:=z) (lo:=w) (by omega) (by omega)
 refine ACalls.fW aB (TblOk.cons qH (TblOk.cons JI (TblOk.cons uq TblOk.nil))) Tryz.func515 [.cell 6 48] (Nat.le_refl _) (T:=aA [(1,[[],[0],[],[0,1,2],[],[0,1,2,3],[0,1,2,3,5],[0,1,2,3,5,6]])]) (h:=fun hcl hlt=>?_)
 clear hlt
 generalize hvo:vOf x y=v at *
 generalize hwo:vOf z w=u at *
 have hs:(v+u) % 2^128<2^128:=Nat.mod_lt _ (by decide)
 have b1:=jh hv
 have b2:=jh hw
 have b3:=jh hs
 have u1:=dy hv
 have u2:=dy hw
 have u3:=dy hs
 generalize hso:(v+u) % 2^128=s at *
 simp only [go_sem,nt,AZ,nQ,kq,Int.toNat_natCast,hvo,hwo,b1,b2,b3,u1,u2,u3,vv,hso]
 refine ⟨by omega,by omega,?_⟩
 exact Z17
def tK:List AV→AHeap→(AV→Prop)→Prop
 |[.agg [.int .u64 a,.int .u64 b],.int .i64 n],_,K=>(kq a b∧0≤n∧n≤100)∧K (vv ((vOf a.toNat b.toNat <<< n.toNat) % 2^128))
 |_,_,_=>False
theorem Eh:EntOk Tryz.prog 514 (Ent.pure tK):=by
 refine EntOk.pure fun args H K h=>?_
 unfold tK at h
 split at h
 rotate_left
 ·exact h.elim
 rename_i a b n
 obtain ⟨⟨⟨h0,h1,h2,h3⟩,hn0,hn1⟩,hK⟩:=h
 refine ⟨_,hK,?_⟩
 obtain ⟨x,rfl⟩:=cf h0
 obtain ⟨y,rfl⟩:=cf h2
 obtain ⟨n,rfl⟩:=cf hn0
 clear hK h0 h2 hn0
 simp only [Int.toNat_natCast]
 have hv:=qR (hi:=x) (lo:=y) (by omega) (by omega)
 refine ACalls.fW aB (TblOk.cons qH (TblOk.cons uj (TblOk.cons uq TblOk.nil))) Tryz.func514 [.cell 4 48] (Nat.le_refl _) (T:=aA []) (h:=fun hcl hlt=>?_)
 clear hlt
 generalize hvo:vOf x y=v at *
 have hs:(v <<< n) % 2^128<2^128:=Nat.mod_lt _ (by decide)
 have hbit:∀ i,i<128→((v <<< n) % 2^128).testBit i=(decide (n≤i)&&v.testBit (i - n)):=fun i hi=>by
  rw [Nat.testBit_mod_two_pow,Nat.testBit_shiftLeft];simp [hi]
 have b3:=jh hs
 have u3:=dy hs
 generalize hso:(v <<< n) % 2^128=s at *
 have hmm:max (0:Int) (min (n:Int) 128)=(n:Int):=by omega
 have hsp:splice (List.replicate 128 (.bool false)) 0 (bits v)=bits v:=gm (y:=.junk) (co v)
 have hclo:∀ q,((((((H.push (.cells [.int .u64 (x:Int),.int .u64 (y:Int)])).push (.cells [.int .u64 0,.int .u64 0])).push (.cells (bits v))).push (.cells (cI s q))))).Closed:=fun q =>
  ae (ae (ae (ae hcl (by simp [znq,znr,znb])) (by simp [znq,znr,znb])) (by simp [dB])) (by simp [uN])
 simp only [go_sem,nt,nK,kq,Int.toNat_natCast,hvo,hmm,hsp,co,jg,List.length_replicate,Nat.le_refl]
 refine ⟨by omega,?_⟩
 refine ay (A:=Nat) (fun i=>[(1,.int .i64 (n:Int)),(4,.ptr (H.nx+1) 0),(5,.ptr (H.nx+1+1) 0),(6,.ptr (H.nx+1+1+1) 0),(7,.int .i64 (i:Int))])
  (fun i=>((((H.push (.cells [.int .u64 (x:Int),.int .u64 (y:Int)])).push (.cells [.int .u64 0,.int .u64 0])).push (.cells (bits v))).push (.cells (cI s fun j=>decide (j<i))))) (fun i=>n≤i∧i≤128) (fun i=>128 - i) n (by omega) ?_ fun i hi=>?_
 ·have e:cI s (fun j=>decide (j<n))=List.replicate 128 (.bool false):=by
   have:cI s (fun j=>decide (j<n))=cI s (fun _=>false):=by
    unfold cI
    refine List.map_congr_left fun j hj=>?_
    have hj:=List.mem_range.1 hj
    have hjj:(decide (j<n)&&s.testBit j)=(false&&s.testBit j):=by
     by_cases h:j<n
     ·rw [hbit j hj,show decide (n≤j)=false from decide_eq_false (by omega)]
      simp only [Bool.false_and,Bool.and_false]
     ·rw [show decide (j<n)=false from decide_eq_false h]
    rw [hjj]
   rw [this]
   exact mP _ _ fun j _=>rfl
  have hc0:=hclo fun j=>decide (j<n)
  rw [e] at hc0 ⊢
  simp only [bkq,enterW,aI,ltF,ne_eq,Nat.reduceEqDiff,reduceCtorEq]
  refine ⟨by simp only [zla];omega,AHeap.Le.refl _,hc0,?_,?_⟩
  ·simp [znb,znc,znj,zla]
   try omega
  ·simp [wk2,wk1]
 obtain ⟨hi0,hi1⟩:=hi
 simp only [go_sem]
 refine aq (fun hc=>?_) (fun hc=>?_)
 ·have hi2:i<128:=by simp at hc;omega
  have e0:IntKind.i64.wrap ((i:Int)+1)=((i+1:Nat):Int):=by rw [wrap_i64]<;>omega
  have e1:IntKind.i64.wrap ((i:Int) - (n:Int))=((i - n:Nat):Int):=by rw [wrap_i64]<;>omega
  have g1:=ju v (i - n) (by omega)
  have hb:=hbit i hi2
  rw [show decide (n≤i)=true by simpa using hi0,Bool.true_and] at hb
  rw [← hb] at g1
  have hst:(cI s fun j=>decide (j<i)).set i (.bool (s.testBit i))=cI s fun j=>decide (j<i+1):=by
   rw [lR s _ (fun j=>decide (j<i+1)) i (fun j hj=>by rw [decide_eq_decide];omega) (by simp)]
  simp only [go_sem,Int.toNat_natCast,co,e0,e1,g1,Nat.mul_one,Nat.zero_add,iZ,oV,hst,List.length_set]
  refine ⟨by omega,by omega,by omega,by omega,i+1,by omega,by omega,?_⟩
  simp only [bkq,enterW,aI,ltF,ne_eq,Nat.reduceEqDiff,reduceCtorEq]
  refine ⟨by simp only [zla];omega,AHeap.Le.refl _,hclo _,?_,?_⟩
  ·simp [znb,znc,znj,zla]
   try omega
  ·simp [wk2,wk1]
 ·have hi2:i=128:=by simp at hc;omega
  subst hi2
  have e:cI s (fun j=>decide (j<128))=bits s:=pi _ _ fun j hj=>by simp;omega
  have et:List.take 128 (bits s)=bits s:=List.take_of_length_le (by rw [co];omega)
  simp only [go_sem,e,et,co,nQ,b3,u3,vv]
  exact Z17
end Go.AL
