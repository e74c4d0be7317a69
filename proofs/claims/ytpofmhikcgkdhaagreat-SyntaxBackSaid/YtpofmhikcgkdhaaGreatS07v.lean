/- Lemmas of the proof; no condition. -/
import Derived.Test.YtpofmhikcgkdhaaGreatE06
import Derived.Test.YtpofmhikcgkdhaaGreatLSyn
set_option linter.all false
set_option maxRecDepth 10000
set_option maxHeartbeats 32000000
open Go Go.AL Go.Proofs
namespace Go.AL
theorem zN:ti Tryz.prog 153=some ⟨.slice 4,1,24,.slice .nil 1 []⟩:=by kernel_rfl
attribute [go_sem] zN
def kp:List AV→AHeap→(AV→Prop)→Prop
 |[.agg l],_,K=>oP l∧K (vv (iq l))
 |_,_,_=>False
theorem po:EntOk Tryz.prog 115 (Ent.pure kp):=by
 refine Ype fun _ H K h=>?_
 unfold kp at h
 split at h
 rotate_left
 ·exact h.elim
 rename_i l
 obtain ⟨c1,hK⟩:=h
 refine ⟨_,hK,?_⟩
 obtain ⟨v,rfl,hv⟩:=k8 c1
 clear hK c1
 rw [cQ hv]
 have v1:vv v=.agg [.int .u64 ((v/2^64:Nat):Int),.int .u64 ((v % 2^64:Nat):Int)]:=rfl
 have hbl:∀ i,i<64→(v % 2^64).testBit i=v.testBit i:=fun i hi=>by rw [Nat.testBit_mod_two_pow];simp [hi]
 have hbh:∀ i,(v/2^64).testBit i=v.testBit (i+64):=fun i=>by rw [Nat.testBit_div_two_pow]
 have hx:v/2^64<2^64:=by omega
 have hy:v % 2^64<2^64:=by omega
 rw [v1]
 generalize v/2^64=x at *
 generalize v % 2^64=y at *
 clear v1
 refine ACalls.fW aE tNq Tryz.func115 [.cell 2 55] (nrq _) (T:=ay []) (h:=fun hcl hlt=>?_)
 clear hlt
 simp only [go_sem,byq]
 refine fB (A:=Nat) (fun k=>[(4,.int .i64 (k:Int)),(3,.ptr (H.nx+1+1) 0),(1,.ptr H.nx 0),(2,.ptr (H.nx+1) 0)])
  (fun k=>((H.push (.cells (bits v))).push (.cells [.int .u64 0,.int .u64 0])).push (.cells [.int .u64 ((x % 2^k:Nat):Int),.int .u64 ((y % 2^k:Nat):Int)])) (fun k=>k≤64) (fun k=>64 - k) 0 (by omega) ?_ fun k hk=>?_
 ·simp only [bnq,enter,fZ,ltF,ne_eq,Nat.reduceEqDiff,reduceCtorEq,Nat.pow_zero,Nat.mod_one,true_or,and_true]
 simp only [go_sem,byq]
 refine ah (fun hc=>?_) (fun hc=>?_)
 ·have hk:k<64:=by simp at hc;omega
  have e1:IntKind.i64.wrap ((k:Int)+64)=((k+64:Nat):Int):=by rw [wrap_i64]<;>omega
  have e2:IntKind.u64.wrap (k:Int)=(k:Int):=by rw [cR]<;>omega
  have e3:IntKind.i64.wrap ((k:Int)+1)=((k+1:Nat):Int):=by rw [wrap_i64]<;>omega
  have g1:=iR v k (by omega)
  have g2:=iR v (k+64) (by omega)
  have e4:sF .u64 1 (k:Int)=(((1 <<< k) % 2^64:Nat):Int):=yl 1 k
  have lx:x % 2^k<2^64:=Nat.lt_of_le_of_lt (Nat.mod_le _ _) hx
  have ly:y % 2^k<2^64:=Nat.lt_of_le_of_lt (Nat.mod_le _ _) hy
  have l1:(1 <<< k) % 2^64<2^64:=Nat.mod_lt _ (by decide)
  have o1:=sc _ _ lx l1
  have o2:=sc _ _ ly l1
  have hb1:=hbl k hk
  have hb2:=hbh k
  by_cases c1:v.testBit k=true<;>by_cases c2:v.testBit (k+64)=true
  ·rw [c1] at hb1 g1;rw [c2] at hb2 g2
   rw [nP x k hk hb2] at o1
   rw [nP y k hk hb1] at o2
   simp only [go_sem,zav,byq,e1,e2,e3,e4,iNq,nzq,Nat.mul_one,b8,g1,g2,o1,o2]
   refine ⟨by omega,by omega,by omega,by omega,by omega,by omega,k+1,by omega,by omega,?_⟩
   simp only [bnq,enter,fZ,ltF,ne_eq,Nat.reduceEqDiff,reduceCtorEq,true_or,and_self]
  ·have c2:v.testBit (k+64)=false:=by simpa using c2
   rw [c1] at hb1 g1;rw [c2] at hb2 g2
   have o1:=j7 x k hb2
   rw [nP y k hk hb1] at o2
   simp only [go_sem,zav,byq,e1,e2,e3,e4,iNq,nzq,Nat.mul_one,b8,g1,g2,o2]
   refine ⟨by omega,by omega,by omega,by omega,by omega,k+1,by omega,by omega,?_⟩
   simp only [bnq,enter,fZ,ltF,ne_eq,Nat.reduceEqDiff,reduceCtorEq,o1,true_or,and_self]
  ·have c1:v.testBit k=false:=by simpa using c1
   rw [c1] at hb1 g1;rw [c2] at hb2 g2
   have o2:=j7 y k hb1
   rw [nP x k hk hb2] at o1
   simp only [go_sem,zav,byq,e1,e2,e3,e4,iNq,nzq,Nat.mul_one,b8,g1,g2,o1]
   refine ⟨by omega,by omega,by omega,by omega,by omega,k+1,by omega,by omega,?_⟩
   simp only [bnq,enter,fZ,ltF,ne_eq,Nat.reduceEqDiff,reduceCtorEq,o2,true_or,and_self]
  ·have c1:v.testBit k=false:=by simpa using c1
   have c2:v.testBit (k+64)=false:=by simpa using c2
   rw [c1] at hb1 g1;rw [c2] at hb2 g2
   have o1:=j7 x k hb2
   have o2:=j7 y k hb1
   simp only [go_sem,zav,byq,e1,e2,e3,e4,iNq,nzq,Nat.mul_one,b8,g1,g2]
   refine ⟨by omega,by omega,by omega,by omega,k+1,by omega,by omega,?_⟩
   simp only [bnq,enter,fZ,ltF,ne_eq,Nat.reduceEqDiff,reduceCtorEq,o1,o2,true_or,and_self]
 ·have hk:k=64:=by simp at hc;omega
  subst hk
  have m1:x % 2^64=x:=Nat.mod_eq_of_lt hx
  have m2:y % 2^64=y:=Nat.mod_eq_of_lt hy
  simp only [go_sem,byq,m1,m2]
  exact Z18
def kC:List AV→AHeap→(AV→Prop)→Prop
 |[.int .i64 n],_,K=>K (.int .i64 (max 0 (min n 128)))
 |_,_,_=>False
theorem pb:EntOk Tryz.prog 114 (Ent.pure kC):=by
 refine Ype fun _ H K h=>?_
 unfold kC at h
 split at h
 rotate_left
 ·exact h.elim
 rename_i n
 refine ⟨_,h,?_⟩
 clear h
 refine ACalls.fW aE tNq Tryz.func114 [.tmp 2] (nrq _) (T:=ay []) (h:=fun hcl hlt=>?_)
 clear hlt
 simp only [go_sem]
 exact Z18
theorem rW {n k:Nat}:ltL n (List.replicate k (.bool false))=True:=eq_true (ltL_iff.2 fun j hj=>by
 rw [List.getElem_replicate,AV.lt]<;>simp)
def sX (x y i:Nat):Bool:=BitVec.carry i (BitVec.ofNat 128 x) (BitVec.ofNat 128 y) false
def b2i (b:Bool):Int:=if b then 1 else 0
theorem xQ (x y:Nat):sX x y 0=false:=by simp [sX,BitVec.carry,Nat.mod_one]
theorem AS {x y i:Nat} (hx:x<2^128) (hy:y<2^128) (h:i<128):(((b2i (x.testBit i)+b2i (y.testBit i)+b2i (sX x y i)).tmod 2)==1)=((x+y) % 2^128).testBit i∧decide (b2i (x.testBit i)+b2i (y.testBit i)+b2i (sX x y i) > 1)=sX x y (i+1):=by
 have h1:((BitVec.ofNat 128 x)+(BitVec.ofNat 128 y)).getLsbD i=((BitVec.ofNat 128 x).getLsbD i ^^ ((BitVec.ofNat 128 y).getLsbD i ^^ BitVec.carry i (BitVec.ofNat 128 x) (BitVec.ofNat 128 y) false)):=BitVec.getLsbD_add h _ _
 have h2:=BitVec.carry_succ i (BitVec.ofNat 128 x) (BitVec.ofNat 128 y) false
 have h3:((BitVec.ofNat 128 x)+(BitVec.ofNat 128 y)).getLsbD i=((x+y) % 2^128).testBit i:=by
  rw [← BitVec.testBit_toNat,BitVec.toNat_add,BitVec.toNat_ofNat,BitVec.toNat_ofNat,Nat.mod_eq_of_lt hx,Nat.mod_eq_of_lt hy]
 have h4:(BitVec.ofNat 128 x).getLsbD i=x.testBit i:=by rw [← BitVec.testBit_toNat,BitVec.toNat_ofNat,Nat.mod_eq_of_lt hx]
 have h5:(BitVec.ofNat 128 y).getLsbD i=y.testBit i:=by rw [← BitVec.testBit_toNat,BitVec.toNat_ofNat,Nat.mod_eq_of_lt hy]
 unfold sX
 rw [h2,← h3,h1,h4,h5]
 generalize BitVec.carry i (BitVec.ofNat 128 x) (BitVec.ofNat 128 y) false=c
 cases x.testBit i<;>cases y.testBit i<;>cases c<;>decide
def zR (b0 b1 b2:Bool):Nat→Int
 |0=>0
 |1=>b2i b0
 |2=>b2i b0+b2i b1
 |_=>b2i b0+b2i b1+b2i b2
def vY:List AV→AHeap→(AV→Prop)→Prop
 |[.agg x,.agg y,.bool false,.int .i64 n],_,K=>(oP x∧oP y∧n=128)∧K (.agg (bits ((iq x+iq y) % 2^128)))
 |_,_,_=>False
theorem AN:EntOk Tryz.prog 116 (Ent.pure vY):=by
 refine Ype fun _ H K h=>?_
 unfold vY at h
 split at h
 rotate_left
 ·exact h.elim
 rename_i x y n
 obtain ⟨⟨c1,c2,rfl⟩,hK⟩:=h
 refine ⟨_,hK,?_⟩
 obtain ⟨x,rfl,hx⟩:=k8 c1
 obtain ⟨y,rfl,hy⟩:=k8 c2
 clear hK c1 c2
 rw [cQ hx,cQ hy]
 refine ACalls.fW aE (tCq pb tNq) Tryz.func116 [.cell 8 125] (nrq _) (T:=ay [(6,[[],[],[],[],[],[],[],[2,5]])]) (h:=fun hcl hlt=>?_)
 clear hlt
 have sb:=fun i (h:i<128)=>@AS x y i hx hy h
 generalize hs:(x+y) % 2^128=s at *
 simp only [go_sem]
 refine au (A:=Nat) (fun i=>[(2,.bool (sX x y i)),(3,.int .i64 128),(4,.ptr H.nx 0),(5,.ptr (H.nx+1) 0),(8,.ptr (H.nx+1+1) 0),(9,.ptr (H.nx+1+1+1) 0),(10,.int .i64 (i:Int))])
  (fun i=>(((H.push (.cells (bits x))).push (.cells (bits y))).push (.cells (List.replicate 128 (.bool false)))).push (.cells (bT s fun j=>decide (j<i)))) (fun i=>i≤128) (fun i=>128 - i) 0 (by omega) ?_ fun i hi=>?_
 ·have e:bT s (fun j=>decide (j<0))=List.replicate 128 (.bool false):=jT _ _ fun j _=>by simp
  rw [e,xQ]
  have q1:ltL H.nx (bits x)=True:=cu
  simp only [bkq,enterW,aU,ltF,ne_eq,Nat.reduceEqDiff,reduceCtorEq]
  refine ⟨by simp only [zle];omega,lRq _,?_,?_,?_⟩
  ·exact aa (aa (aa (aa hcl (by simp [cu])) (by simp [cu])) (by rw [rW];trivial)) (by rw [rW];trivial)
  ·simp [znf,zng,znn,zle];omega
  ·simp [wk2,wk1]
 have hmm:max (0:Int) (min 128 128)=128:=by decide
 have e0:IntKind.i64.wrap ((i:Int)+1)=((i+1:Nat):Int):=by rw [wrap_i64]<;>omega
 have hclo:∀ q,((((H.push (.cells (bits x))).push (.cells (bits y))).push (.cells (List.replicate 128 (.bool false)))).push (.cells (bT s q))).Closed:=fun q =>
  aa (aa (aa (aa hcl (by simp [cu])) (by simp [cu])) (by rw [rW];trivial)) (by simp [pw])
 simp only [go_sem,kC,hmm]
 refine ah (fun hc=>?_) (fun hc=>?_)
 ·have hi1:i<128:=by simp at hc;omega
  obtain ⟨s1,s2⟩:=sb i hi1
  have gx:=iR x i hi1
  have gy:=iR y i hi1
  have hst:(bT s fun j=>decide (j<i)).set i (.bool (s.testBit i))=bT s fun j=>decide (j<i+1):=by
   rw [je s _ (fun j=>decide (j<i+1)) i (fun j hj=>by rw [decide_eq_decide];omega) (by simp)]
  rw [← s1] at hst
  generalize x.testBit i=b0 at *
  generalize y.testBit i=b1 at *
  generalize sX x y i=b2 at *
  simp only [go_sem,iNq,b8,gx,gy,Nat.mul_one,nzq]
  refine ⟨by omega,by omega,by omega,by omega,?_⟩
  refine au (A:=Nat) (fun k=>[(3,.int .i64 128),(4,.ptr H.nx 0),(5,.ptr (H.nx+1) 0),(8,.ptr (H.nx+1+1) 0),(9,.ptr (H.nx+1+1+1) 0),(10,.int .i64 (i:Int)),(11,.int .i64 (zR b0 b1 b2 k)),(27,.slice .any 1 [.bool b0,.bool b1,.bool b2]),(28,.int .i64 3),(29,.int .i64 (k:Int))])
   (fun _=>(((H.push (.cells (bits x))).push (.cells (bits y))).push (.cells (List.replicate 128 (.bool false)))).push (.cells (bT s fun j=>decide (j<i)))) (fun k=>k≤3) (fun k=>3 - k) 0 (by omega) ?_ fun k hk=>?_
  ·refine ⟨by simp only [zle,zkq,zkv];omega,(lRq _).push _,hclo _,?_,?_⟩
   ·simp [ltF,znf,zng,znn,zle,eP,znu,znv];omega
   ·simp [aU,wk2,wk1,wkM,Fr.get,zR]
  simp only [go_sem]
  refine ah (fun h3=>?_) (fun h3=>?_)
  ·have h3':k<3:=by simp at h3;omega
   have e3:IntKind.i64.wrap ((k:Int)+1)=((k+1:Nat):Int):=by rw [wrap_i64]<;>omega
   have ent:∀ fr:Fr,Fr.get fr 3=.int .i64 128→Fr.get fr 4=.ptr H.nx 0→Fr.get fr 5=.ptr (H.nx+1) 0→Fr.get fr 8=.ptr (H.nx+1+1) 0→Fr.get fr 9=.ptr (H.nx+1+1+1) 0→Fr.get fr 10=.int .i64 (i:Int)→Fr.get fr 11=.int .i64 (zR b0 b1 b2 (k+1))→Fr.get fr 27=.slice .any 1 [.bool b0,.bool b1,.bool b2]→Fr.get fr 28=.int .i64 3→Fr.get fr 29=.int .i64 ((k+1:Nat):Int) →
    ∃ a':Nat,a'≤3∧3 - a'<3 - k∧enterW H.nx fr ((((H.push (.cells (bits x))).push (.cells (bits y))).push (.cells (List.replicate 128 (.bool false)))).push (.cells (bT s fun j=>decide (j<i))))
     [(3,.int .i64 128),(4,.ptr H.nx 0),(5,.ptr (H.nx+1) 0),(8,.ptr (H.nx+1+1) 0),(9,.ptr (H.nx+1+1+1) 0),(10,.int .i64 (i:Int)),(11,.int .i64 (zR b0 b1 b2 a')),(27,.slice .any 1 [.bool b0,.bool b1,.bool b2]),(28,.int .i64 3),(29,.int .i64 (a':Int))]
     ((((H.push (.cells (bits x))).push (.cells (bits y))).push (.cells (List.replicate 128 (.bool false)))).push (.cells (bT s fun j=>decide (j<i)))):=by
    intro fr q1 q2 q3 q4 q5 q6 q7 q8 q9 q10
    refine ⟨k+1,by omega,by omega,by simp only [zle];omega,lRq _,hclo _,?_,?_⟩
    ·simp [ltF,znf,zng,znn,zle,eP,znu,znv];omega
    ·simp [aU,wk2,wk1,wkM,q1,q2,q3,q4,q5,q6,q7,q8,q9,q10]
   rcases (by omega:k=0∨k=1∨k=2) with rfl|rfl|rfl
   all_goals
    simp only [go_sem,e3,iNq,zok]
    refine ⟨by omega,ah (fun hb=>?_) (fun hb=>?_)⟩
    all_goals
     subst hb
     simp only [go_sem,e3]
     refine ent _ rfl rfl rfl rfl rfl rfl ?_ rfl rfl rfl
     simp only [zgo,zgp,ne_eq,Nat.reduceEqDiff,nFq]
     first|rfl|(cases b0<;>rfl)|(cases b0<;>cases b1<;>rfl)
  ·have h3':k=3:=by simp at h3;omega
   subst h3'
   have ec:zR b0 b1 b2 3=b2i b0+b2i b1+b2i b2:=rfl
   simp only [go_sem,iNq,Nat.mul_one,nzq,ec,i4,lf,hst,s2,e0,List.length_set]
   refine ⟨by decide,by omega,by omega,i+1,by omega,by omega,?_⟩
   simp only [bkq,enterW,aU,ltF,ne_eq,Nat.reduceEqDiff,reduceCtorEq]
   refine ⟨by simp only [zle];omega,lRq _,hclo _,?_,?_⟩
   ·simp [znf,zng,znn,zle];omega
   ·simp [wk2,wk1]
 ·have hi1:i=128:=by simp at hc;omega
  subst hi1
  have e:bT s (fun j=>decide (j<128))=bits s:=ls _ _ fun j hj=>by simp;omega
  have es:splice (List.replicate 128 (.bool false)) 0 (bits s)=bits s:=ek (y:=.junk) (b8 s)
  have et:List.take 128 (bits s)=bits s:=List.take_of_length_le (by rw [b8];omega)
  simp only [go_sem,e,es,et,b8,hZ,List.length_replicate]
  simp (disch:=first|exact Zd|omega) [↓zmo,beq,List.take_of_length_le,List.drop_append,List.take_append,af,wk,wk2,wk1,wkM,wkL,am,List.drop_eq_nil_of_le,hcl,cu]
def r9:List AV→AHeap→(AV→Prop)→Prop
 |[.agg [.int .u64 a,.int .u64 b],.agg [.int .u64 c,.int .u64 d],.int .i64 n],_,K=>(gI a b∧gI c d∧n=128)∧K (vv ((vOf a.toNat b.toNat+vOf c.toNat d.toNat) % 2^128))
 |_,_,_=>False
theorem zi:EntOk Tryz.prog 113 (Ent.pure r9):=by
 refine Ype fun _ H K h=>?_
 unfold r9 at h
 split at h
 rotate_left
 ·exact h.elim
 rename_i a b c d n
 obtain ⟨⟨⟨h0,h1,h2,h3⟩,⟨k0,k1,k2,k3⟩,rfl⟩,hK⟩:=h
 refine ⟨_,hK,?_⟩
 obtain ⟨x,rfl⟩:=bO h0
 obtain ⟨y,rfl⟩:=bO h2
 obtain ⟨z,rfl⟩:=bO k0
 obtain ⟨w,rfl⟩:=bO k2
 clear hK h0 h2 k0 k2
 simp only [iNq]
 have hv:=om (hi:=x) (lo:=y) (by omega) (by omega)
 have hw:=om (hi:=z) (lo:=w) (by omega) (by omega)
 refine ACalls.fW aE (tCq nf (tCq AN (tCq po tNq))) Tryz.func113 [.cell 6 55] (nrq _) (T:=ay [(1,[[],[0],[],[0,1,2],[],[0,1,2,3],[0,1,2,3,5],[0,1,2,3,5,6]])]) (h:=fun hcl hlt=>?_)
 clear hlt
 generalize hvo:vOf x y=v at *
 generalize hwo:vOf z w=u at *
 have hs:(v+u) % 2^128<2^128:=Nat.mod_lt _ (by decide)
 have b1:=gY hv
 have b2:=gY hw
 have b3:=gY hs
 have u1:=cQ hv
 have u2:=cQ hw
 have u3:=cQ hs
 generalize hso:(v+u) % 2^128=s at *
 simp only [go_sem,jR,vY,kp,gI,iNq,hvo,hwo,b1,b2,b3,u1,u2,u3,vv,hso]
 refine ⟨by omega,by omega,?_⟩
 exact Z18
def pB:List AV→AHeap→(AV→Prop)→Prop
 |[.agg [.int .u64 a,.int .u64 b],.int .i64 n],_,K=>(gI a b∧0≤n∧n≤100)∧K (vv ((vOf a.toNat b.toNat <<< n.toNat) % 2^128))
 |_,_,_=>False
theorem xC:EntOk Tryz.prog 112 (Ent.pure pB):=by
 refine Ype fun _ H K h=>?_
 unfold pB at h
 split at h
 rotate_left
 ·exact h.elim
 rename_i a b n
 obtain ⟨⟨⟨h0,h1,h2,h3⟩,hn0,hn1⟩,hK⟩:=h
 refine ⟨_,hK,?_⟩
 obtain ⟨x,rfl⟩:=bO h0
 obtain ⟨y,rfl⟩:=bO h2
 obtain ⟨n,rfl⟩:=bO hn0
 clear hK h0 h2 hn0
 simp only [iNq]
 have hv:=om (hi:=x) (lo:=y) (by omega) (by omega)
 refine ACalls.fW aE (tCq nf (tCq pb (tCq po tNq))) Tryz.func112 [.cell 4 55] (nrq _) (T:=ay []) (h:=fun hcl hlt=>?_)
 clear hlt
 generalize hvo:vOf x y=v at *
 have hs:(v <<< n) % 2^128<2^128:=Nat.mod_lt _ (by decide)
 have hbit:∀ i,i<128→((v <<< n) % 2^128).testBit i=(decide (n≤i)&&v.testBit (i - n)):=fun i hi=>by
  rw [Nat.testBit_mod_two_pow,Nat.testBit_shiftLeft];simp [hi]
 have b3:=gY hs
 have u3:=cQ hs
 generalize hso:(v <<< n) % 2^128=s at *
 have hmm:max (0:Int) (min (n:Int) 128)=(n:Int):=by omega
 have hsp:splice (List.replicate 128 (.bool false)) 0 (bits v)=bits v:=ek (y:=.junk) (b8 v)
 have hclo:∀ q,((((((H.push (.cells [.int .u64 (x:Int),.int .u64 (y:Int)])).push (.cells [.int .u64 0,.int .u64 0])).push (.cells (bits v))).push (.cells (bT s q))))).Closed:=fun q =>
  aa (aa (aa (aa hcl (by simp [znu,znv,znf])) (by simp [znu,znv,znf])) (by simp [cu])) (by simp [pw])
 simp only [go_sem,jR,kC,gI,iNq,hvo,hmm,hsp,b8,hZ,List.length_replicate,nrq]
 refine ⟨by omega,?_⟩
 refine au (A:=Nat) (fun i=>[(1,.int .i64 (n:Int)),(4,.ptr (H.nx+1) 0),(5,.ptr (H.nx+1+1) 0),(6,.ptr (H.nx+1+1+1) 0),(7,.int .i64 (i:Int))])
  (fun i=>((((H.push (.cells [.int .u64 (x:Int),.int .u64 (y:Int)])).push (.cells [.int .u64 0,.int .u64 0])).push (.cells (bits v))).push (.cells (bT s fun j=>decide (j<i))))) (fun i=>n≤i∧i≤128) (fun i=>128 - i) n (by omega) ?_ fun i hi=>?_
 ·have e:bT s (fun j=>decide (j<n))=List.replicate 128 (.bool false):=by
   have:bT s (fun j=>decide (j<n))=bT s (fun _=>false):=by
    unfold bT
    refine List.map_congr_left fun j hj=>?_
    have hj:=List.mem_range.1 hj
    have hjj:(decide (j<n)&&s.testBit j)=(false&&s.testBit j):=by
     by_cases h:j<n
     ·rw [hbit j hj,show decide (n≤j)=false from dfq (by omega)]
      simp only [Bool.false_and,Bool.and_false]
     ·rw [show decide (j<n)=false from dfq h]
    rw [hjj]
   rw [this]
   exact jT _ _ fun j _=>rfl
  have hc0:=hclo fun j=>decide (j<n)
  rw [e] at hc0 ⊢
  simp only [bkq,enterW,aU,ltF,ne_eq,Nat.reduceEqDiff,reduceCtorEq]
  refine ⟨by simp only [zle];omega,lRq _,hc0,?_,?_⟩
  ·simp [znf,zng,znn,zle]
   try omega
  ·simp [wk2,wk1]
 obtain ⟨hi0,hi1⟩:=hi
 simp only [go_sem]
 refine ah (fun hc=>?_) (fun hc=>?_)
 ·have hi2:i<128:=by simp at hc;omega
  have e0:IntKind.i64.wrap ((i:Int)+1)=((i+1:Nat):Int):=by rw [wrap_i64]<;>omega
  have e1:IntKind.i64.wrap ((i:Int) - (n:Int))=((i - n:Nat):Int):=by rw [wrap_i64]<;>omega
  have g1:=iR v (i - n) (by omega)
  have hb:=hbit i hi2
  rw [show decide (n≤i)=true by simpa using hi0,Bool.true_and] at hb
  rw [← hb] at g1
  have hst:(bT s fun j=>decide (j<i)).set i (.bool (s.testBit i))=bT s fun j=>decide (j<i+1):=by
   rw [je s _ (fun j=>decide (j<i+1)) i (fun j hj=>by rw [decide_eq_decide];omega) (by simp)]
  simp only [go_sem,iNq,b8,e0,e1,g1,Nat.mul_one,nzq,i4,lf,hst,List.length_set]
  refine ⟨by omega,by omega,by omega,by omega,i+1,by omega,by omega,?_⟩
  simp only [bkq,enterW,aU,ltF,ne_eq,Nat.reduceEqDiff,reduceCtorEq]
  refine ⟨by simp only [zle];omega,lRq _,hclo _,?_,?_⟩
  ·simp [znf,zng,znn,zle]
   try omega
  ·simp [wk2,wk1]
 ·have hi2:i=128:=by simp at hc;omega
  subst hi2
  have e:bT s (fun j=>decide (j<128))=bits s:=ls _ _ fun j hj=>by simp;omega
  have et:List.take 128 (bits s)=bits s:=List.take_of_length_le (by rw [b8];omega)
  simp only [go_sem,e,et,b8,kp,b3,u3,vv]
  exact Z18
end Go.AL
