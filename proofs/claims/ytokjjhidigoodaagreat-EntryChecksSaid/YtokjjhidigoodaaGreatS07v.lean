/- Lemmas of the proof; no condition. -/
import Derived.Test.YtokjjhidigoodaaGreatE06
import Derived.Test.YtokjjhidigoodaaGreatLSyn
set_option linter.all false
set_option maxRecDepth 10000
set_option maxHeartbeats 32000000
open Go Go.AL Go.Proofs
namespace Go.AL
theorem IK:ti Tryz.prog 175=some ⟨.slice 4,1,24,.slice .nil 1 []⟩:=by kernel_rfl
attribute [go_sem] IK
def pK:List AV→AHeap→(AV→Prop)→Prop
 |[.agg l],_,K=>sY l∧K (vv (lH l))
 |_,_,_=>False
theorem v4:EntOk Tryz.prog 141 (Ent.pure pK):=by
 refine Ype fun _ H K h=>?_
 unfold pK at h
 split at h
 rotate_left
 ·exact h.elim
 rename_i l
 obtain ⟨c1,hK⟩:=h
 refine ⟨_,hK,?_⟩
 obtain ⟨v,rfl,hv⟩:=nj c1
 clear hK c1
 rw [dq hv]
 have v1:vv v=.agg [.int .u64 ((v/2^64:Nat):Int),.int .u64 ((v % 2^64:Nat):Int)]:=rfl
 have hbl:∀ i,i<64→(v % 2^64).testBit i=v.testBit i:=fun i hi=>by rw [Nat.testBit_mod_two_pow];simp [hi]
 have hbh:∀ i,(v/2^64).testBit i=v.testBit (i+64):=fun i=>by rw [Nat.testBit_div_two_pow]
 have hx:v/2^64<2^64:=by omega
 have hy:v % 2^64<2^64:=by omega
 rw [v1]
 generalize v/2^64=x at *
 generalize v % 2^64=y at *
 clear v1
 refine Yfv ax tNq Tryz.func141 [.cell 2 48] fun hcl hlt=>?_
 clear hlt
 simp only [go_sem,byq]
 refine eJ (A:=Nat) (fun k=>[(4,.int .i64 (k:Int)),(3,.ptr (H.nx+1+1) 0),(1,.ptr H.nx 0),(2,.ptr (H.nx+1) 0)])
  (fun k=>((H.push (.cells (bits v))).push (.cells [.int .u64 0,.int .u64 0])).push (.cells [.int .u64 ((x % 2^k:Nat):Int),.int .u64 ((y % 2^k:Nat):Int)])) (fun k=>k≤64) (fun k=>64 - k) 0 (by omega) ?_ fun k hk=>?_
 ·exact Z20
 simp only [go_sem,byq]
 refine au (fun hc=>?_) (fun hc=>?_)
 ·exact Y7
 ·have hk:k=64:=by simp at hc;omega
  subst hk
  have m1:x % 2^64=x:=Nat.mod_eq_of_lt hx
  have m2:y % 2^64=y:=Nat.mod_eq_of_lt hy
  simp only [go_sem,byq,m1,m2]
  exact Z24
def pL:List AV→AHeap→(AV→Prop)→Prop
 |[.int .i64 n],_,K=>K (.int .i64 (max 0 (min n 128)))
 |_,_,_=>False
theorem wM:EntOk Tryz.prog 140 (Ent.pure pL):=by
 refine Ype fun _ H K h=>?_
 unfold pL at h
 split at h
 rotate_left
 ·exact h.elim
 rename_i n
 refine ⟨_,h,?_⟩
 clear h
 refine Yfv ax tNq Tryz.func140 [.tmp 2] fun hcl hlt=>?_
 clear hlt
 simp only [go_sem]
 exact Z24
theorem AQ {n k:Nat}:ltL n (List.replicate k (.bool false))=True:=eq_true (ltL_iff.2 fun j hj=>by
 rw [List.getElem_replicate,AV.lt]<;>simp)
def Ba (x y i:Nat):Bool:=BitVec.carry i (BitVec.ofNat 128 x) (BitVec.ofNat 128 y) false
def b2i (b:Bool):Int:=if b then 1 else 0
theorem Gx (x y:Nat):Ba x y 0=false:=by simp [Ba,BitVec.carry,Nat.mod_one]
theorem Mr {x y i:Nat} (hx:x<2^128) (hy:y<2^128) (h:i<128):(((b2i (x.testBit i)+b2i (y.testBit i)+b2i (Ba x y i)).tmod 2)==1)=((x+y) % 2^128).testBit i∧decide (b2i (x.testBit i)+b2i (y.testBit i)+b2i (Ba x y i) > 1)=Ba x y (i+1):=by
 have h1:((BitVec.ofNat 128 x)+(BitVec.ofNat 128 y)).getLsbD i=((BitVec.ofNat 128 x).getLsbD i ^^ ((BitVec.ofNat 128 y).getLsbD i ^^ BitVec.carry i (BitVec.ofNat 128 x) (BitVec.ofNat 128 y) false)):=BitVec.getLsbD_add h _ _
 have h2:=BitVec.carry_succ i (BitVec.ofNat 128 x) (BitVec.ofNat 128 y) false
 have h3:((BitVec.ofNat 128 x)+(BitVec.ofNat 128 y)).getLsbD i=((x+y) % 2^128).testBit i:=by
  rw [← BitVec.testBit_toNat,BitVec.toNat_add,BitVec.toNat_ofNat,BitVec.toNat_ofNat,Nat.mod_eq_of_lt hx,Nat.mod_eq_of_lt hy]
 have h4:(BitVec.ofNat 128 x).getLsbD i=x.testBit i:=by rw [← BitVec.testBit_toNat,BitVec.toNat_ofNat,Nat.mod_eq_of_lt hx]
 have h5:(BitVec.ofNat 128 y).getLsbD i=y.testBit i:=by rw [← BitVec.testBit_toNat,BitVec.toNat_ofNat,Nat.mod_eq_of_lt hy]
 unfold Ba
 rw [h2,← h3,h1,h4,h5]
 generalize BitVec.carry i (BitVec.ofNat 128 x) (BitVec.ofNat 128 y) false=c
 cases x.testBit i<;>cases y.testBit i<;>cases c<;>decide
def IJ (b0 b1 b2:Bool):Nat→Int
 |0=>0
 |1=>b2i b0
 |2=>b2i b0+b2i b1
 |_=>b2i b0+b2i b1+b2i b2
def Ed:List AV→AHeap→(AV→Prop)→Prop
 |[.agg x,.agg y,.bool false,.int .i64 n],_,K=>(sY x∧sY y∧n=128)∧K (.agg (bits ((lH x+lH y) % 2^128)))
 |_,_,_=>False
theorem LK:EntOk Tryz.prog 516 (Ent.pure Ed):=by
 refine Ype fun _ H K h=>?_
 unfold Ed at h
 split at h
 rotate_left
 ·exact h.elim
 rename_i x y n
 obtain ⟨⟨c1,c2,rfl⟩,hK⟩:=h
 refine ⟨_,hK,?_⟩
 obtain ⟨x,rfl,hx⟩:=nj c1
 obtain ⟨y,rfl,hy⟩:=nj c2
 clear hK c1 c2
 rw [dq hx,dq hy]
 refine ACalls.fW ax (tCq wM tNq) Tryz.func516 [.cell 8 215] (nrq _) (T:=av [(6,[[],[],[],[],[],[],[],[2,5]])]) (h:=fun hcl hlt=>?_)
 clear hlt
 have sb:=fun i (h:i<128)=>@Mr x y i hx hy h
 generalize hs:(x+y) % 2^128=s at *
 simp only [go_sem]
 refine az (A:=Nat) (fun i=>[(2,.bool (Ba x y i)),(3,.int .i64 128),(4,.ptr H.nx 0),(5,.ptr (H.nx+1) 0),(8,.ptr (H.nx+1+1) 0),(9,.ptr (H.nx+1+1+1) 0),(10,.int .i64 (i:Int))])
  (fun i=>(((H.push (.cells (bits x))).push (.cells (bits y))).push (.cells (List.replicate 128 (.bool false)))).push (.cells (cC s fun j=>decide (j<i)))) (fun i=>i≤128) (fun i=>128 - i) 0 (by omega) ?_ fun i hi=>?_
 ·have e:cC s (fun j=>decide (j<0))=List.replicate 128 (.bool false):=lS _ _ fun j _=>by simp
  rw [e,Gx]
  have q1:ltL H.nx (bits x)=True:=dV
  simp only [bkq,enterW,aK,ltF,ne_eq,Nat.reduceEqDiff,reduceCtorEq]
  refine ⟨by simp only [zla];omega,lRq _,?_,?_,?_⟩
  ·exact ae (ae (ae (ae hcl (by simp [dV])) (by simp [dV])) (by rw [AQ];trivial)) (by rw [AQ];trivial)
  ·simp [znb,znc,znj,zla];omega
  ·simp [wk2,wk1]
 have hmm:max (0:Int) (min 128 128)=128:=by decide
 have e0:IntKind.i64.wrap ((i:Int)+1)=((i+1:Nat):Int):=by rw [wrap_i64]<;>omega
 have hclo:∀ q,((((H.push (.cells (bits x))).push (.cells (bits y))).push (.cells (List.replicate 128 (.bool false)))).push (.cells (cC s q))).Closed:=fun q =>
  ae (ae (ae (ae hcl (by simp [dV])) (by simp [dV])) (by rw [AQ];trivial)) (by simp [wa])
 simp only [go_sem,pL,hmm]
 refine au (fun hc=>?_) (fun hc=>?_)
 ·have hi1:i<128:=by simp at hc;omega
  obtain ⟨s1,s2⟩:=sb i hi1
  have gx:=gF x i hi1
  have gy:=gF y i hi1
  have hst:(cC s fun j=>decide (j<i)).set i (.bool (s.testBit i))=cC s fun j=>decide (j<i+1):=by
   exact Y152
  rw [← s1] at hst
  generalize x.testBit i=b0 at *
  generalize y.testBit i=b1 at *
  generalize Ba x y i=b2 at *
  simp only [go_sem,iNq,bJ,gx,gy,Nat.mul_one,nzq]
  refine ⟨by omega,by omega,by omega,by omega,?_⟩
  refine az (A:=Nat) (fun k=>[(3,.int .i64 128),(4,.ptr H.nx 0),(5,.ptr (H.nx+1) 0),(8,.ptr (H.nx+1+1) 0),(9,.ptr (H.nx+1+1+1) 0),(10,.int .i64 (i:Int)),(11,.int .i64 (IJ b0 b1 b2 k)),(27,.slice .any 1 [.bool b0,.bool b1,.bool b2]),(28,.int .i64 3),(29,.int .i64 (k:Int))])
   (fun _=>(((H.push (.cells (bits x))).push (.cells (bits y))).push (.cells (List.replicate 128 (.bool false)))).push (.cells (cC s fun j=>decide (j<i)))) (fun k=>k≤3) (fun k=>3 - k) 0 (by omega) ?_ fun k hk=>?_
  ·refine ⟨by simp only [zla,zkm,zkr];omega,(lRq _).push _,hclo _,?_,?_⟩
   ·simp [ltF,znb,znc,znj,zla,aS,znq,znr];omega
   ·simp [aK,wk2,wk1,wkM,Fr.get,IJ]
  simp only [go_sem]
  refine au (fun h3=>?_) (fun h3=>?_)
  ·have h3':k<3:=by simp at h3;omega
   have e3:IntKind.i64.wrap ((k:Int)+1)=((k+1:Nat):Int):=by rw [wrap_i64]<;>omega
   have ent:∀ fr:Fr,Fr.get fr 3=.int .i64 128→Fr.get fr 4=.ptr H.nx 0→Fr.get fr 5=.ptr (H.nx+1) 0→Fr.get fr 8=.ptr (H.nx+1+1) 0→Fr.get fr 9=.ptr (H.nx+1+1+1) 0→Fr.get fr 10=.int .i64 (i:Int)→Fr.get fr 11=.int .i64 (IJ b0 b1 b2 (k+1))→Fr.get fr 27=.slice .any 1 [.bool b0,.bool b1,.bool b2]→Fr.get fr 28=.int .i64 3→Fr.get fr 29=.int .i64 ((k+1:Nat):Int) →
    ∃ a':Nat,a'≤3∧3 - a'<3 - k∧enterW H.nx fr ((((H.push (.cells (bits x))).push (.cells (bits y))).push (.cells (List.replicate 128 (.bool false)))).push (.cells (cC s fun j=>decide (j<i))))
     [(3,.int .i64 128),(4,.ptr H.nx 0),(5,.ptr (H.nx+1) 0),(8,.ptr (H.nx+1+1) 0),(9,.ptr (H.nx+1+1+1) 0),(10,.int .i64 (i:Int)),(11,.int .i64 (IJ b0 b1 b2 a')),(27,.slice .any 1 [.bool b0,.bool b1,.bool b2]),(28,.int .i64 3),(29,.int .i64 (a':Int))]
     ((((H.push (.cells (bits x))).push (.cells (bits y))).push (.cells (List.replicate 128 (.bool false)))).push (.cells (cC s fun j=>decide (j<i)))):=by
    intro fr q1 q2 q3 q4 q5 q6 q7 q8 q9 q10
    refine ⟨k+1,by omega,by omega,by simp only [zla];omega,lRq _,hclo _,?_,?_⟩
    ·simp [ltF,znb,znc,znj,zla,aS,znq,znr];omega
    ·simp [aK,wk2,wk1,wkM,q1,q2,q3,q4,q5,q6,q7,q8,q9,q10]
   rcases (by omega:k=0∨k=1∨k=2) with rfl|rfl|rfl
   all_goals
    simp only [go_sem,e3,iNq,zog]
    refine ⟨by omega,au (fun hb=>?_) (fun hb=>?_)⟩
    all_goals
     subst hb
     simp only [go_sem,e3]
     refine ent _ rfl rfl rfl rfl rfl rfl ?_ rfl rfl rfl
     simp only [zgk,zgl,ne_eq,Nat.reduceEqDiff,nFq]
     first|rfl|(cases b0<;>rfl)|(cases b0<;>cases b1<;>rfl)
  ·have h3':k=3:=by simp at h3;omega
   subst h3'
   have ec:IJ b0 b1 b2 3=b2i b0+b2i b1+b2i b2:=rfl
   simp only [go_sem,iNq,Nat.mul_one,nzq,ec,fF,nA,hst,s2,e0,List.length_set]
   refine ⟨by decide,by omega,by omega,i+1,by omega,by omega,?_⟩
   simp only [bkq,enterW,aK,ltF,ne_eq,Nat.reduceEqDiff,reduceCtorEq]
   refine ⟨by simp only [zla];omega,lRq _,hclo _,?_,?_⟩
   ·simp [znb,znc,znj,zla];omega
   ·simp [wk2,wk1]
 ·have hi1:i=128:=by simp at hc;omega
  subst hi1
  have e:cC s (fun j=>decide (j<128))=bits s:=nM _ _ fun j hj=>by simp;omega
  have es:splice (List.replicate 128 (.bool false)) 0 (bits s)=bits s:=dY (y:=.junk) (bJ s)
  have et:List.take 128 (bits s)=bits s:=List.take_of_length_le (by rw [bJ];omega)
  simp only [go_sem,e,es,et,bJ,eS,List.length_replicate]
  simp (disch:=first|exact Zd|omega) [↓zmk,beq,List.take_of_length_le,List.drop_append,List.take_append,af,wk,wk2,wk1,wkM,wkL,aj,List.drop_eq_nil_of_le,hcl,dV]
def AP:List AV→AHeap→(AV→Prop)→Prop
 |[.agg [.int .u64 a,.int .u64 b],.agg [.int .u64 c,.int .u64 d],.int .i64 n],_,K=>(lK a b∧lK c d∧n=128)∧K (vv ((vOf a.toNat b.toNat+vOf c.toNat d.toNat) % 2^128))
 |_,_,_=>False
theorem Jx:EntOk Tryz.prog 515 (Ent.pure AP):=by
 refine Ype fun _ H K h=>?_
 unfold AP at h
 split at h
 rotate_left
 ·exact h.elim
 rename_i a b c d n
 obtain ⟨⟨⟨h0,h1,h2,h3⟩,⟨k0,k1,k2,k3⟩,rfl⟩,hK⟩:=h
 refine ⟨_,hK,?_⟩
 obtain ⟨x,rfl⟩:=bj h0
 obtain ⟨y,rfl⟩:=bj h2
 obtain ⟨z,rfl⟩:=bj k0
 obtain ⟨w,rfl⟩:=bj k2
 clear hK h0 h2 k0 k2
 simp only [iNq]
 have hv:=kB (hi:=x) (lo:=y) (by omega) (by omega)
 have hw:=kB (hi:=z) (lo:=w) (by omega) (by omega)
 refine ACalls.fW ax (tCq tR (tCq LK (tCq v4 tNq))) Tryz.func515 [.cell 6 48] (nrq _) (T:=av [(1,[[],[0],[],[0,1,2],[],[0,1,2,3],[0,1,2,3,5],[0,1,2,3,5,6]])]) (h:=fun hcl hlt=>?_)
 clear hlt
 generalize hvo:vOf x y=v at *
 generalize hwo:vOf z w=u at *
 have hs:(v+u) % 2^128<2^128:=Nat.mod_lt _ (by decide)
 have b1:=gV hv
 have b2:=gV hw
 have b3:=gV hs
 have u1:=dq hv
 have u2:=dq hw
 have u3:=dq hs
 generalize hso:(v+u) % 2^128=s at *
 simp only [go_sem,oC,Ed,pK,lK,iNq,hvo,hwo,b1,b2,b3,u1,u2,u3,vv,hso]
 refine ⟨by omega,by omega,?_⟩
 exact Z24
def wN:List AV→AHeap→(AV→Prop)→Prop
 |[.agg [.int .u64 a,.int .u64 b],.int .i64 n],_,K=>(lK a b∧0≤n∧n≤100)∧K (vv ((vOf a.toNat b.toNat <<< n.toNat) % 2^128))
 |_,_,_=>False
theorem FI:EntOk Tryz.prog 514 (Ent.pure wN):=by
 refine Ype fun _ H K h=>?_
 unfold wN at h
 split at h
 rotate_left
 ·exact h.elim
 rename_i a b n
 obtain ⟨⟨⟨h0,h1,h2,h3⟩,hn0,hn1⟩,hK⟩:=h
 refine ⟨_,hK,?_⟩
 obtain ⟨x,rfl⟩:=bj h0
 obtain ⟨y,rfl⟩:=bj h2
 obtain ⟨n,rfl⟩:=bj hn0
 clear hK h0 h2 hn0
 simp only [iNq]
 have hv:=kB (hi:=x) (lo:=y) (by omega) (by omega)
 refine Yfv ax (tCq tR (tCq wM (tCq v4 tNq))) Tryz.func514 [.cell 4 48] fun hcl hlt=>?_
 clear hlt
 generalize hvo:vOf x y=v at *
 have hs:(v <<< n) % 2^128<2^128:=Nat.mod_lt _ (by decide)
 have hbit:∀ i,i<128→((v <<< n) % 2^128).testBit i=(decide (n≤i)&&v.testBit (i - n)):=fun i hi=>by
  rw [Nat.testBit_mod_two_pow,Nat.testBit_shiftLeft];simp [hi]
 have b3:=gV hs
 have u3:=dq hs
 generalize hso:(v <<< n) % 2^128=s at *
 have hmm:max (0:Int) (min (n:Int) 128)=(n:Int):=by omega
 have hsp:splice (List.replicate 128 (.bool false)) 0 (bits v)=bits v:=dY (y:=.junk) (bJ v)
 have hclo:∀ q,((((((H.push (.cells [.int .u64 (x:Int),.int .u64 (y:Int)])).push (.cells [.int .u64 0,.int .u64 0])).push (.cells (bits v))).push (.cells (cC s q))))).Closed:=fun q =>
  ae (ae (ae (ae hcl (by simp [znq,znr,znb])) (by simp [znq,znr,znb])) (by simp [dV])) (by simp [wa])
 simp only [go_sem,oC,pL,lK,iNq,hvo,hmm,hsp,bJ,eS,List.length_replicate,nrq]
 refine ⟨by omega,?_⟩
 refine az (A:=Nat) (fun i=>[(1,.int .i64 (n:Int)),(4,.ptr (H.nx+1) 0),(5,.ptr (H.nx+1+1) 0),(6,.ptr (H.nx+1+1+1) 0),(7,.int .i64 (i:Int))])
  (fun i=>((((H.push (.cells [.int .u64 (x:Int),.int .u64 (y:Int)])).push (.cells [.int .u64 0,.int .u64 0])).push (.cells (bits v))).push (.cells (cC s fun j=>decide (j<i))))) (fun i=>n≤i∧i≤128) (fun i=>128 - i) n (by omega) ?_ fun i hi=>?_
 ·have e:cC s (fun j=>decide (j<n))=List.replicate 128 (.bool false):=by
   have:cC s (fun j=>decide (j<n))=cC s (fun _=>false):=by
    unfold cC
    refine List.map_congr_left fun j hj=>?_
    have hj:=List.mem_range.1 hj
    have hjj:(decide (j<n)&&s.testBit j)=(false&&s.testBit j):=by
     by_cases h:j<n
     ·rw [hbit j hj,show decide (n≤j)=false from dfq (by omega)]
      simp only [Bool.false_and,Bool.and_false]
     ·rw [show decide (j<n)=false from dfq h]
    rw [hjj]
   rw [this]
   exact lS _ _ fun j _=>rfl
  have hc0:=hclo fun j=>decide (j<n)
  rw [e] at hc0 ⊢
  simp only [bkq,enterW,aK,ltF,ne_eq,Nat.reduceEqDiff,reduceCtorEq]
  refine ⟨by simp only [zla];omega,lRq _,hc0,?_,?_⟩
  ·simp [znb,znc,znj,zla]
   try omega
  ·simp [wk2,wk1]
 obtain ⟨hi0,hi1⟩:=hi
 simp only [go_sem]
 refine au (fun hc=>?_) (fun hc=>?_)
 ·have hi2:i<128:=by simp at hc;omega
  have e0:IntKind.i64.wrap ((i:Int)+1)=((i+1:Nat):Int):=by rw [wrap_i64]<;>omega
  have e1:IntKind.i64.wrap ((i:Int) - (n:Int))=((i - n:Nat):Int):=by rw [wrap_i64]<;>omega
  have g1:=gF v (i - n) (by omega)
  have hb:=hbit i hi2
  rw [show decide (n≤i)=true by simpa using hi0,Bool.true_and] at hb
  rw [← hb] at g1
  have hst:(cC s fun j=>decide (j<i)).set i (.bool (s.testBit i))=cC s fun j=>decide (j<i+1):=by
   exact Y152
  simp only [go_sem,iNq,bJ,e0,e1,g1,Nat.mul_one,nzq,fF,nA,hst,List.length_set]
  refine ⟨by omega,by omega,by omega,by omega,i+1,by omega,by omega,?_⟩
  simp only [bkq,enterW,aK,ltF,ne_eq,Nat.reduceEqDiff,reduceCtorEq]
  refine ⟨by simp only [zla];omega,lRq _,hclo _,?_,?_⟩
  ·simp [znb,znc,znj,zla]
   try omega
  ·simp [wk2,wk1]
 ·have hi2:i=128:=by simp at hc;omega
  subst hi2
  have e:cC s (fun j=>decide (j<128))=bits s:=nM _ _ fun j hj=>by simp;omega
  have et:List.take 128 (bits s)=bits s:=List.take_of_length_le (by rw [bJ];omega)
  simp only [go_sem,e,et,bJ,pK,b3,u3,vv]
  exact Z24
end Go.AL
