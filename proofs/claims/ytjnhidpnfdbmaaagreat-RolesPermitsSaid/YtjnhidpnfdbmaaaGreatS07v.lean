/- Lemmas of the proof; no condition. -/
import Derived.Test.YtjnhidpnfdbmaaaGreatE06
import Derived.Test.YtjnhidpnfdbmaaaGreatLSyn
set_option linter.all false
set_option maxRecDepth 10000
set_option maxHeartbeats 32000000
open Go Go.AL Go.Proofs
namespace Go.AL
theorem MG:tSl Tryz.prog 67 4:=kSl
attribute [go_sem] MG
def qG:PCt
 |[.agg l],_,K=>uK l∧K (vv (lY l))
 |_,_,_=>False
theorem xv:EPp 157 qG:=by
 refine Ype fun _ H K h=>?_
 unfold qG at h
 split at h<;>try exact h.elim
 rename_i l
 obtain⟨c1,hK⟩:=h
 refine⟨_,hK,?_⟩
 obtain⟨v,rfl,hv⟩:=oH c1
 clear hK c1
 rw[dJ hv]
 have v1:vv v=.agg [.int .u64 ((v/2^64:Nat):Int),.int .u64 ((v%2^64:Nat):Int)]:=rfl
 have hbl:∀ i,i<64→(v%2^64).testBit i=v.testBit i:=fun i hi=>by rw[Nat.testBit_mod_two_pow];simp[hi]
 have hbh:∀ i,(v/2^64).testBit i=v.testBit (i+64):=fun i=>by rw[Nat.testBit_div_two_pow]
 have hx:v/2^64<2^64:=Xa
 have hy:v%2^64<2^64:=Xa
 rw[v1]
 generalize v/2^64=x at *
 generalize v%2^64=y at *
 clear v1
 refine Yfu az tNq Tryz.func157 [.cell 2 29] fun hcl=>?_
 refine T33 ?_
 refine eZ (A:=Nat) (fun k=>[(4,.int .i64 (k:Int)),(3,.ptr (H.nx+1+1) 0),(1,.ptr H.nx 0),(2,.ptr (H.nx+1) 0)])
  (fun k=>((H.push (.cells (bits v))).push (.cells [.int .u64 0,.int .u64 0])).push (.cells [.int .u64 ((x%2^k:Nat):Int),.int .u64 ((y%2^k:Nat):Int)])) (fun k=>k≤64) (fun k=>64-k) 0 Xa ?_ fun k hk=>?_
 ·exact Z20
 refine T33 ?_
 refine aq (fun hc=>?_) (fun hc=>?_)
 ·exact V7
 ·have hk:k=64:=sHc
  subst hk
  have m1:x%2^64=x:=Nat.mod_eq_of_lt hx
  have m2:y%2^64=y:=Nat.mod_eq_of_lt hy
  simp only[go_sem,byq,m1,m2]
  exact Z24
def q0:PCt
 |[.int .i64 n],_,K=>K (.int .i64 (max 0 (min n 128)))
 |_,_,_=>False
theorem xx:EPp 156 q0:=by
 refine Ype fun _ H K h=>?_
 unfold q0 at h
 split at h<;>try exact h.elim
 rename_i n
 refine⟨_,h,?_⟩
 clear h
 refine Yfu az tNq Tryz.func156 [.tmp 2] fun hcl=>?_
 refine T9 ?_
 exact Z24
theorem Cr{n k:Nat}:ltL n (List.replicate k (.bool false))=True:=eq_true (ltL_iff.2 fun j hj=>by
 rw[List.getElem_replicate,AV.lt]<;>simp)
def DG(x y i:Nat):Bool:=BitVec.carry i (BitVec.ofNat 128 x) (BitVec.ofNat 128 y) false
def b2i(b:Bool):Int:=if b then 1 else 0
theorem IO(x y:Nat):DG x y 0=false:=by simp[DG,BitVec.carry,Nat.mod_one]
theorem O4{x y i:Nat}(hx:x<2^128)(hy:y<2^128)(h:i<128):(((b2i (x.testBit i)+b2i (y.testBit i)+b2i (DG x y i)).tmod 2)==1)=((x+y)%2^128).testBit i∧decide (b2i (x.testBit i)+b2i (y.testBit i)+b2i (DG x y i)>1)=DG x y (i+1):=by
 have h1:((BitVec.ofNat 128 x)+(BitVec.ofNat 128 y)).getLsbD i=((BitVec.ofNat 128 x).getLsbD i ^^ ((BitVec.ofNat 128 y).getLsbD i ^^ BitVec.carry i (BitVec.ofNat 128 x) (BitVec.ofNat 128 y) false)):=BitVec.getLsbD_add h _ _
 have h2:=BitVec.carry_succ i (BitVec.ofNat 128 x) (BitVec.ofNat 128 y) false
 have h3:((BitVec.ofNat 128 x)+(BitVec.ofNat 128 y)).getLsbD i=((x+y)%2^128).testBit i:=by
  rw[← BitVec.testBit_toNat,BitVec.toNat_add,BitVec.toNat_ofNat,BitVec.toNat_ofNat,Nat.mod_eq_of_lt hx,Nat.mod_eq_of_lt hy]
 have h4:(BitVec.ofNat 128 x).getLsbD i=x.testBit i:=by rw[← BitVec.testBit_toNat,BitVec.toNat_ofNat,Nat.mod_eq_of_lt hx]
 have h5:(BitVec.ofNat 128 y).getLsbD i=y.testBit i:=by rw[← BitVec.testBit_toNat,BitVec.toNat_ofNat,Nat.mod_eq_of_lt hy]
 unfold DG
 rw[h2,← h3,h1,h4,h5]
 generalize BitVec.carry i (BitVec.ofNat 128 x) (BitVec.ofNat 128 y) false=c
 cases x.testBit i<;>cases y.testBit i<;>cases c<;>decide
def KB(b0 b1 b2:Bool):Nat→Int
 |0=>0
 |1=>b2i b0
 |2=>b2i b0+b2i b1
 |_=>b2i b0+b2i b1+b2i b2
def Ek:PCt
 |[.agg x,.agg y,.bool false,.int .i64 n],_,K=>(uK x∧uK y∧n=128)∧K (.agg (bits ((lY x+lY y)%2^128)))
 |_,_,_=>False
theorem Ov:EPp 241 Ek:=by
 refine Ype fun _ H K h=>?_
 unfold Ek at h
 split at h<;>try exact h.elim
 rename_i x y n
 obtain⟨⟨c1,c2,rfl⟩,hK⟩:=h
 refine⟨_,hK,?_⟩
 obtain⟨x,rfl,hx⟩:=oH c1
 obtain⟨y,rfl,hy⟩:=oH c2
 clear hK c1 c2
 rw[dJ hx,dJ hy]
 refine Yfw az (tCq xx tNq) Tryz.func241 [.cell 8 236] (nrq _) (T:=ay [(6,[[],[],[],[],[],[],[],[2,5]])]) (h:=fun hcl=>?_)
 have sb:=fun i (h:i<128)=>@O4 x y i hx hy h
 generalize hs:(x+y)%2^128=s at *
 refine T9 ?_
 refine aA (A:=Nat) (fun i=>[(2,.bool (DG x y i)),(3,.int .i64 128),(4,.ptr H.nx 0),(5,.ptr (H.nx+1) 0),(8,.ptr (H.nx+1+1) 0),(9,.ptr (H.nx+1+1+1) 0),(10,.int .i64 (i:Int))])
  (fun i=>(((H.push (.cells (bits x))).push (.cells (bits y))).push (.cells (List.replicate 128 (.bool false)))).push (.cells (cM s fun j=>decide (j<i)))) (fun i=>i≤128) (fun i=>128-i) 0 Xa ?_ fun i hi=>?_
 ·have e:cM s (fun j=>decide (j<0))=List.replicate 128 (.bool false):=mG _ _ fun j _=>Xb
  rw[e,IO]
  have q1:ltL H.nx (bits x)=True:=eE
  refine T17 ?_
  refine⟨Xg,lRq _,?_,?_,?_⟩
  ·exact aa (aa (aa (aa hcl (by simp[eE])) (by simp[eE])) (by rw[Cr];trivial)) (by rw[Cr];trivial)
  ·simp[znf,zng,znn,zle];omega
  ·simp[wk2,wk1]
 have hmm:max (0:Int) (min 128 128)=128:=Xc
 have e0:IntKind.i64.wrap ((i:Int)+1)=((i+1:Nat):Int):=Xe
 have hclo:∀ q,((((H.push (.cells (bits x))).push (.cells (bits y))).push (.cells (List.replicate 128 (.bool false)))).push (.cells (cM s q))).Closed:=fun q =>
  aa (aa (aa (aa hcl (by simp[eE])) (by simp[eE])) (by rw[Cr];trivial)) (by simp[xf])
 simp only[go_sem,q0,hmm]
 refine aq (fun hc=>?_) (fun hc=>?_)
 ·have hi1:i<128:=sHc
  obtain⟨s1,s2⟩:=sb i hi1
  have gx:=hU x i hi1
  have gy:=hU y i hi1
  have hst:(cM s fun j=>decide (j<i)).set i (.bool (s.testBit i))=cM s fun j=>decide (j<i+1):=by
   exact V153
  rw[← s1]at hst
  generalize x.testBit i=b0 at *
  generalize y.testBit i=b1 at *
  generalize DG x y i=b2 at *
  simp only[go_sem,iNq,bJ,gx,gy,Nat.mul_one,nzq]
  refine⟨Xa,Xa,Xa,Xa,?_⟩
  refine aA (A:=Nat) (fun k=>[(3,.int .i64 128),(4,.ptr H.nx 0),(5,.ptr (H.nx+1) 0),(8,.ptr (H.nx+1+1) 0),(9,.ptr (H.nx+1+1+1) 0),(10,.int .i64 (i:Int)),(11,.int .i64 (KB b0 b1 b2 k)),(27,.slice .any 1 [.bool b0,.bool b1,.bool b2]),(28,.int .i64 3),(29,.int .i64 (k:Int))])
   (fun _=>(((H.push (.cells (bits x))).push (.cells (bits y))).push (.cells (List.replicate 128 (.bool false)))).push (.cells (cM s fun j=>decide (j<i)))) (fun k=>k≤3) (fun k=>3-k) 0 Xa ?_ fun k hk=>?_
  ·refine⟨by simp only[zle,zkq,zkv];omega,(lRq _).push _,hclo _,?_,?_⟩
   ·simp[ltF,znf,zng,znn,zle,aN,znu,znv];omega
   ·simp[aJ,wk2,wk1,wkM,Fr.get,KB]
  refine T9 ?_
  refine aq (fun h3=>?_) (fun h3=>?_)
  ·have h3':k<3:=by simp at h3;omega
   have e3:IntKind.i64.wrap ((k:Int)+1)=((k+1:Nat):Int):=Xe
   have ent:∀ fr:Fr,Fr.get fr 3=.int .i64 128→Fr.get fr 4=.ptr H.nx 0→Fr.get fr 5=.ptr (H.nx+1) 0→Fr.get fr 8=.ptr (H.nx+1+1) 0→Fr.get fr 9=.ptr (H.nx+1+1+1) 0→Fr.get fr 10=.int .i64 (i:Int)→Fr.get fr 11=.int .i64 (KB b0 b1 b2 (k+1))→Fr.get fr 27=.slice .any 1 [.bool b0,.bool b1,.bool b2]→Fr.get fr 28=.int .i64 3→Fr.get fr 29=.int .i64 ((k+1:Nat):Int) →
    ∃ a':Nat,a'≤3∧3-a'<3-k∧enterW H.nx fr ((((H.push (.cells (bits x))).push (.cells (bits y))).push (.cells (List.replicate 128 (.bool false)))).push (.cells (cM s fun j=>decide (j<i))))
     [(3,.int .i64 128),(4,.ptr H.nx 0),(5,.ptr (H.nx+1) 0),(8,.ptr (H.nx+1+1) 0),(9,.ptr (H.nx+1+1+1) 0),(10,.int .i64 (i:Int)),(11,.int .i64 (KB b0 b1 b2 a')),(27,.slice .any 1 [.bool b0,.bool b1,.bool b2]),(28,.int .i64 3),(29,.int .i64 (a':Int))]
     ((((H.push (.cells (bits x))).push (.cells (bits y))).push (.cells (List.replicate 128 (.bool false)))).push (.cells (cM s fun j=>decide (j<i)))):=by
    intro fr q1 q2 q3 q4 q5 q6 q7 q8 q9 q10
    refine⟨k+1,Xa,Xa,Xg,lRq _,hclo _,?_,?_⟩
    ·simp[ltF,znf,zng,znn,zle,aN,znu,znv];omega
    ·simp[aJ,wk2,wk1,wkM,q1,q2,q3,q4,q5,q6,q7,q8,q9,q10]
   rcases(Xa:k=0∨k=1∨k=2)with rfl|rfl|rfl
   all_goals
    simp only[go_sem,e3,iNq,zok]
    refine⟨Xa,aq (fun hb=>?_) (fun hb=>?_)⟩
    all_goals
     subst hb
     simp only[go_sem,e3]
     refine ent _ rfl rfl rfl rfl rfl rfl ?_ rfl rfl rfl
     simp only[zgo,zgp,ne_eq,Nat.reduceEqDiff,nFq]
     first|rfl|(cases b0<;>rfl)|(cases b0<;>cases b1<;>rfl)
  ·have h3':k=3:=by simp at h3;omega
   subst h3'
   have ec:KB b0 b1 b2 3=b2i b0+b2i b1+b2i b2:=rfl
   simp only[go_sem,iNq,Nat.mul_one,nzq,ec,fR,oI,hst,s2,e0,List.length_set]
   refine⟨Xc,Xa,Xa,i+1,Xa,Xa,?_⟩
   refine T17 ?_
   refine⟨Xg,lRq _,hclo _,?_,?_⟩
   ·simp[znf,zng,znn,zle];omega
   ·simp[wk2,wk1]
 ·have hi1:i=128:=sHc
  subst hi1
  have e:cM s (fun j=>decide (j<128))=bits s:=oT _ _ fun j hj=>Xd
  have es:splice (List.replicate 128 (.bool false)) 0 (bits s)=bits s:=eM (y:=.junk) (bJ s)
  have et:List.take 128 (bits s)=bits s:=List.take_of_length_le (by rw[bJ];omega)
  simp only[go_sem,e,es,et,bJ,fu,List.length_replicate]
  simp (disch:=first|exact Zd|omega) [↓zmo,beq,List.take_of_length_le,List.drop_append,List.take_append,af,wk,wk2,wk1,wkM,wkL,aj,List.drop_eq_nil_of_le,hcl,eE]
def B3:PCt
 |[.agg [.int .u64 a,.int .u64 b],.agg [.int .u64 c,.int .u64 d],.int .i64 n],_,K=>(mD a b∧mD c d∧n=128)∧K (vv ((vOf a.toNat b.toNat+vOf c.toNat d.toNat)%2^128))
 |_,_,_=>False
theorem MV:EPp 240 B3:=by
 refine Ype fun _ H K h=>?_
 unfold B3 at h
 split at h<;>try exact h.elim
 rename_i a b c d n
 obtain⟨⟨⟨h0,h1,h2,h3⟩,⟨k0,k1,k2,k3⟩,rfl⟩,hK⟩:=h
 refine⟨_,hK,?_⟩
 obtain⟨x,rfl⟩:=bv h0
 obtain⟨y,rfl⟩:=bv h2
 obtain⟨z,rfl⟩:=bv k0
 obtain⟨w,rfl⟩:=bv k2
 clear hK h0 h2 k0 k2
 simp only[iNq]
 have hv:=lC (hi:=x) (lo:=y) Xa Xa
 have hw:=lC (hi:=z) (lo:=w) Xa Xa
 refine Yfw az (tCq uz (tCq Ov (tCq xv tNq))) Tryz.func240 [.cell 6 29] (nrq _) (T:=ay [(1,[[],[0],[],[0,1,2],[],[0,1,2,3],[0,1,2,3,5],[0,1,2,3,5,6]])]) (h:=fun hcl=>?_)
 generalize hvo:vOf x y=v at *
 generalize hwo:vOf z w=u at *
 have hs:(v+u)%2^128<2^128:=Nat.mod_lt _ Xc
 have b1:=iA hv
 have b2:=iA hw
 have b3:=iA hs
 have u1:=dJ hv
 have u2:=dJ hw
 have u3:=dJ hs
 generalize hso:(v+u)%2^128=s at *
 simp only[go_sem,pI,Ek,qG,mD,iNq,hvo,hwo,b1,b2,b3,u1,u2,u3,vv,hso]
 refine⟨Xa,Xa,?_⟩
 exact Z24
def y7:PCt
 |[.agg [.int .u64 a,.int .u64 b],.int .i64 n],_,K=>(mD a b∧0≤n∧n≤100)∧K (vv ((vOf a.toNat b.toNat <<<n.toNat)%2^128))
 |_,_,_=>False
theorem IQ:EPp 239 y7:=by
 refine Ype fun _ H K h=>?_
 unfold y7 at h
 split at h<;>try exact h.elim
 rename_i a b n
 obtain⟨⟨⟨h0,h1,h2,h3⟩,hn0,hn1⟩,hK⟩:=h
 refine⟨_,hK,?_⟩
 obtain⟨x,rfl⟩:=bv h0
 obtain⟨y,rfl⟩:=bv h2
 obtain⟨n,rfl⟩:=bv hn0
 clear hK h0 h2 hn0
 simp only[iNq]
 have hv:=lC (hi:=x) (lo:=y) Xa Xa
 refine Yfu az (tCq uz (tCq xx (tCq xv tNq))) Tryz.func239 [.cell 4 29] fun hcl=>?_
 generalize hvo:vOf x y=v at *
 have hs:(v <<<n)%2^128<2^128:=Nat.mod_lt _ Xc
 have hbit:∀ i,i<128→((v <<<n)%2^128).testBit i=(decide (n≤i)&&v.testBit (i-n)):=fun i hi=>by
  rw[Nat.testBit_mod_two_pow,Nat.testBit_shiftLeft];simp[hi]
 have b3:=iA hs
 have u3:=dJ hs
 generalize hso:(v <<<n)%2^128=s at *
 have hmm:max (0:Int) (min (n:Int) 128)=(n:Int):=Xa
 have hsp:splice (List.replicate 128 (.bool false)) 0 (bits v)=bits v:=eM (y:=.junk) (bJ v)
 have hclo:∀ q,((((((H.push (.cells [.int .u64 (x:Int),.int .u64 (y:Int)])).push (.cells [.int .u64 0,.int .u64 0])).push (.cells (bits v))).push (.cells (cM s q))))).Closed:=fun q =>
  aa (aa (aa (aa hcl Xr) Xr) (by simp[eE])) (by simp[xf])
 simp only[go_sem,pI,q0,mD,iNq,hvo,hmm,hsp,bJ,fu,List.length_replicate,nrq]
 refine⟨Xa,?_⟩
 refine aA (A:=Nat) (fun i=>[(1,.int .i64 (n:Int)),(4,.ptr (H.nx+1) 0),(5,.ptr (H.nx+1+1) 0),(6,.ptr (H.nx+1+1+1) 0),(7,.int .i64 (i:Int))])
  (fun i=>((((H.push (.cells [.int .u64 (x:Int),.int .u64 (y:Int)])).push (.cells [.int .u64 0,.int .u64 0])).push (.cells (bits v))).push (.cells (cM s fun j=>decide (j<i))))) (fun i=>n≤i∧i≤128) (fun i=>128-i) n Xa ?_ fun i hi=>?_
 ·have e:cM s (fun j=>decide (j<n))=List.replicate 128 (.bool false):=by
   have:cM s (fun j=>decide (j<n))=cM s (fun _=>false):=by
    unfold cM
    refine List.map_congr_left fun j hj=>?_
    have hj:=List.mem_range.1 hj
    have hjj:(decide (j<n)&&s.testBit j)=(false&&s.testBit j):=by
     by_cases h:j<n
     ·rw[hbit j hj,show decide (n≤j)=false from dfq (Xa)]
      simp only[Bool.false_and,Bool.and_false]
     ·rw[show decide (j<n)=false from dfq h]
    rw[hjj]
   rw[this]
   exact mG _ _ fun j _=>rfl
  have hc0:=hclo fun j=>decide (j<n)
  rw[e]at hc0 ⊢
  refine T17 ?_
  refine⟨Xg,lRq _,hc0,?_,?_⟩
  ·simp[znf,zng,znn,zle]
   try omega
  ·simp[wk2,wk1]
 obtain⟨hi0,hi1⟩:=hi
 refine T9 ?_
 refine aq (fun hc=>?_) (fun hc=>?_)
 ·have hi2:i<128:=sHc
  have e0:IntKind.i64.wrap ((i:Int)+1)=((i+1:Nat):Int):=Xe
  have e1:IntKind.i64.wrap ((i:Int)-(n:Int))=((i-n:Nat):Int):=Xe
  have g1:=hU v (i-n) Xa
  have hb:=hbit i hi2
  rw[show decide (n≤i)=true by simpa using hi0,Bool.true_and]at hb
  rw[← hb]at g1
  have hst:(cM s fun j=>decide (j<i)).set i (.bool (s.testBit i))=cM s fun j=>decide (j<i+1):=by
   exact V153
  simp only[go_sem,iNq,bJ,e0,e1,g1,Nat.mul_one,nzq,fR,oI,hst,List.length_set]
  refine⟨Xa,Xa,Xa,Xa,i+1,Xa,Xa,?_⟩
  refine T17 ?_
  refine⟨Xg,lRq _,hclo _,?_,?_⟩
  ·simp[znf,zng,znn,zle]
   try omega
  ·simp[wk2,wk1]
 ·have hi2:i=128:=sHc
  subst hi2
  have e:cM s (fun j=>decide (j<128))=bits s:=oT _ _ fun j hj=>Xd
  have et:List.take 128 (bits s)=bits s:=List.take_of_length_le (by rw[bJ];omega)
  simp only[go_sem,e,et,bJ,qG,b3,u3,vv]
  exact Z24
end Go.AL
