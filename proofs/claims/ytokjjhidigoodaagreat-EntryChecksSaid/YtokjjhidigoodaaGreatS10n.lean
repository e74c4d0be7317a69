/- Lemmas of the proof; no condition. -/
import Derived.Test.YtokjjhidigoodaaGreatS10j
set_option linter.all false
set_option maxRecDepth 10000
set_option maxHeartbeats 32000000
open List renaming length_cons → yaz, length_nil → yba, cons_append → yal, nil_append → yak, take_of_length_le → ybc, drop_append → ybd, take_append → ybe, drop_eq_nil_of_le → ybf, map_nil → yaf, length_map → ybb
open Go Go.AL Go.Proofs
namespace Go.AL
def uR (m:SMatch) (kind bits:Int) (v:Nat):Bool :=
 if m.present=false then decide (1≤kind∧kind≤4)
 else if kind=1 then decide (v=m.value)
 else if kind=2 then decide (v &&& jm bits m.pfx=m.value &&& jm bits m.pfx)
 else if kind=3 then decide (v &&& m.mask=m.value)
 else if kind=4 then decide (m.value≤v∧v≤m.high)
 else false
structure MOk (m:SMatch):Prop where
 v:m.value<2^128
 k:m.mask<2^128
 h:m.high<2^128
theorem pF {a b:Int} (h:isV a b):∃ x:Nat,x<2^128∧a=((x/2^64:Nat):Int)∧b=((x % 2^64:Nat):Int)∧vOf a.toNat b.toNat=x:=by
 obtain ⟨h0,h1,h2,h3⟩:=h
 obtain ⟨x,rfl⟩:=bj h0
 obtain ⟨y,rfl⟩:=bj h2
 have hy:y<2^64:=by omega
 refine ⟨vOf x y,kB (by omega) hy,by rw [rn hy],by rw [AR hy],by simp only [iNq]⟩
theorem fo {x y:Nat}:((((x/2^64:Nat):Int)==((y/2^64:Nat):Int))&&((((x % 2^64:Nat):Int)==((y % 2^64:Nat):Int))&&true))=decide (x=y):=by
 exact Y148
theorem eu {x y:Nat}:((((x/2^64:Nat):Int)==((y/2^64:Nat):Int))&&(((x % 2^64:Nat):Int)==((y % 2^64:Nat):Int)))=decide (x=y):=by
 rw [← fo,Bool.and_true]
theorem e9 {x:Nat} (h:x<2^128):isV ((x/2^64:Nat):Int) ((x % 2^64:Nat):Int)=True:=eq_true (by unfold isV;omega)
theorem fm {x y:Nat}:decide (sk x y≤0)=decide (x≤y):=by
 unfold sk
 rw [decide_eq_decide]
 split
 ·simp;omega
 ·split<;>simp<;>omega
def tD:List AV→AHeap→(AV→Prop)→Prop
 |[.agg l,.int .i64 k,.int .i64 w,.agg [.int .u64 a,.int .u64 b]],_,K=>∃ m:SMatch,(l=bE m∧MOk m∧isV a b)∧K (.bool (uR m k w (vOf a.toNat b.toNat)))
 |_,_,_=>False
theorem DY:EntOk Tryz.prog 79 (Ent.pure tD):=by
 refine Ype fun _ H K h=>?_
 unfold tD at h
 split at h
 rotate_left
 ·exact h.elim
 rename_i l k w a b
 obtain ⟨m,⟨rfl,⟨hv,hk,hh⟩,hab⟩,hK⟩:=h
 refine ⟨_,hK,?_⟩
 clear hK
 obtain ⟨x,hx,rfl,rfl,e⟩:=pF hab
 rw [e]
 clear e hab
 obtain ⟨pr,v,mk,pf,hi⟩:=m
 dsimp only at hv hk hh
 have i1:=e9 hx
 have i2:=e9 hv
 have i3:=e9 hk
 have i4:=e9 hh
 have hL:=sn w pf
 have i5:=e9 hL
 cases pr
 ·have e1:uR ⟨false,v,mk,pf,hi⟩ k w x=decide (1≤k∧k≤4):=rfl
  rw [e1]
  by_cases h1:1≤k
  ·have d1:decide (k ≥ 1)=true:=dtq h1
   have d2:decide (1≤k∧k≤4)=decide (k≤4):=by rw [decide_eq_decide];omega
   exact Y72
  ·have d1:decide (k ≥ 1)=false:=dfq h1
   have d2:decide (1≤k∧k≤4)=false:=dfq (by omega)
   exact Y72
 have e1:uR ⟨true,v,mk,pf,hi⟩ k w x=if k=1 then decide (x=v) else if k=2 then decide (x &&& jm w pf=v &&& jm w pf) else if k=3 then decide (x &&& mk=v) else if k=4 then decide (v≤x∧x≤hi) else false:=rfl
 rw [e1]
 by_cases k1:k=1
 ·subst k1
  rw [if_pos rfl]
  refine ACalls.fW ax (tCq cj (tCq eo (tCq cl tNq))) Tryz.func79 [.tmp 8] (nrq _) (T:=av [(8,[[],[],[0,1],[],[],[],[0,1,2,4,5]]),(10,[[],[],[],[0,2]])]) (h:=fun hcl hlt=>?_)
  clear hlt
  simp only [go_sem,bE,vc,yal,yak,beq_self_eq_true,cF,cE,Bool.bne_false,fo,eu]
  exact Z0
 rw [if_neg k1]
 have b1:(k==1)=false:=by simpa using k1
 by_cases k2:k=2
 ·subst k2
  rw [if_pos rfl]
  have c1:((2:Int)==1)=false:=rfl
  refine ACalls.fW ax (tCq cj (tCq eo (tCq cl tNq))) Tryz.func79 [.tmp 8] (nrq _) (T:=av [(8,[[],[],[0,1],[],[],[],[0,1,2,4,5]]),(10,[[],[],[],[0,2]])]) (h:=fun hcl hlt=>?_)
  clear hlt
  simp only [go_sem,bE,vc,yal,yak,c1,beq_self_eq_true,cF,cE,Bool.bne_false,fo,eu,ld,kF,p2V,vv,i1,i2,i5,iNq,bD]
  (repeat with_reducible refine Yq ?_)
  exact Z0
 rw [if_neg k2]
 have b2:(k==2)=false:=by simpa using k2
 by_cases k3:k=3
 ·subst k3
  rw [if_pos rfl]
  have c1:((3:Int)==1)=false:=rfl
  have c2:((3:Int)==2)=false:=rfl
  refine ACalls.fW ax (tCq cj (tCq eo (tCq cl tNq))) Tryz.func79 [.tmp 8] (nrq _) (T:=av [(8,[[],[],[0,1],[],[],[],[0,1,2,4,5]]),(10,[[],[],[],[0,2]])]) (h:=fun hcl hlt=>?_)
  clear hlt
  simp only [go_sem,bE,vc,yal,yak,c1,c2,beq_self_eq_true,cF,cE,Bool.bne_false,fo,eu,ld,kF,p2V,vv,i1,i2,i3,i5,iNq,bD]
  (repeat with_reducible refine Yq ?_)
  exact Z0
 rw [if_neg k3]
 have b3:(k==3)=false:=by simpa using k3
 by_cases k4:k=4
 ·subst k4
  rw [if_pos rfl]
  have c1:((4:Int)==1)=false:=rfl
  have c2:((4:Int)==2)=false:=rfl
  have c3:((4:Int)==3)=false:=rfl
  by_cases hvx:v≤x
  ·have d1:decide (sk v x≤0)=true:=by rw [fm];exact dtq hvx
   have d2:decide (v≤x∧x≤hi)=decide (x≤hi):=by rw [decide_eq_decide];omega
   exact Y50
  ·have d1:decide (sk v x≤0)=false:=by rw [fm];exact dfq hvx
   have d2:decide (v≤x∧x≤hi)=false:=dfq (by omega)
   exact Y50
 rw [if_neg k4]
 have b4:(k==4)=false:=by simpa using k4
 refine ACalls.fW ax (tCq cj (tCq eo (tCq cl tNq))) Tryz.func79 [.tmp 8] (nrq _) (T:=av [(8,[[],[],[0,1],[],[],[],[0,1,2,4,5]]),(10,[[],[],[],[0,2]])]) (h:=fun hcl hlt=>?_)
 clear hlt
 simp only [go_sem,bE,vc,yal,yak,b1,b2,b3,b4]
 exact Z0
structure EOk (e:SEntry):Prop where
 ml:e.ms.length≤140737488355328
 al:e.args.length≤140737488355328
 mo:∀ m∈e.ms,MOk m
def gr (m:SMatch) (kind:Int):SMatch:=⟨true,m.value,if kind=3 then m.mask else 0,if kind=2 then m.pfx else 0,if kind=4 then m.high else 0⟩
def j0 (m:SMatch) (kind:Int):Bool:=if m.present=false then decide (m=cu)&&decide (kind≠1) else decide (m=gr m kind)
theorem gZ:Tryz.prog.eqGuardType Tryz.prog.depth 114=false:=by kernel_rfl
theorem iT {m n:SMatch}:teq Tryz.prog 9 114 (.agg [.bool m.present,.int .u64 ((m.value/2^64:Nat):Int),.int .u64 ((m.value % 2^64:Nat):Int),.int .u64 ((m.mask/2^64:Nat):Int),.int .u64 ((m.mask % 2^64:Nat):Int),.int .i64 m.pfx,.int .u64 ((m.high/2^64:Nat):Int),.int .u64 ((m.high % 2^64:Nat):Int)])
 (.agg [.bool n.present,.int .u64 ((n.value/2^64:Nat):Int),.int .u64 ((n.value % 2^64:Nat):Int),.int .u64 ((n.mask/2^64:Nat):Int),.int .u64 ((n.mask % 2^64:Nat):Int),.int .i64 n.pfx,.int .u64 ((n.high/2^64:Nat):Int),.int .u64 ((n.high % 2^64:Nat):Int)])=some (decide (m=n)):=by
 have g1:Tryz.prog.stoodInHeld 114=false:=by kernel_rfl
 have g2:Tryz.prog.stoodInHeld 48=false:=by kernel_rfl
 by_cases h:m=n
 ·subst h
  simp [tJ,pC,teq,teq.go,teq.part,uS,zW,xd,ceq,g1,g2,TD.agg]
 ·rw [dfq h]
  obtain ⟨p,v,k,f,hh⟩:=m
  obtain ⟨p',v',k',f',h'⟩:=n
  dsimp only
  generalize h1:v/2^64=a1
  generalize h2:v % 2^64=a2
  generalize h3:v'/2^64=b1
  generalize h4:v' % 2^64=b2
  generalize h5:k/2^64=a3
  generalize h6:k % 2^64=a4
  generalize h7:k'/2^64=b3
  generalize h8:k' % 2^64=b4
  generalize h9:hh/2^64=a5
  generalize h10:hh % 2^64=a6
  generalize h11:h'/2^64=b5
  generalize h12:h' % 2^64=b6
  simp [tJ,pC,teq,teq.go,teq.part,uS,zW,xd,ceq,g1,g2,TD.agg]
  intro q1 q2 q3 q4 q5 q6 q7 q8
  apply h
  rw [q1,q6,show v=v' by omega,show k=k' by omega,show hh=h' by omega]
def fZ (m:SMatch):List AV:=[.bool m.present,.int .u64 ((m.value/2^64:Nat):Int),.int .u64 ((m.value % 2^64:Nat):Int),.int .u64 ((m.mask/2^64:Nat):Int),.int .u64 ((m.mask % 2^64:Nat):Int),.int .i64 m.pfx,.int .u64 ((m.high/2^64:Nat):Int),.int .u64 ((m.high % 2^64:Nat):Int)]
theorem pQ (m:SMatch):bE m=fZ m:=rfl
def Ai:List AV→AHeap→(AV→Prop)→Prop
 |[.agg l,.int .i64 k],_,K=>∃ m:SMatch,l=bE m∧K (.agg (fZ (gr m k)))
 |_,_,_=>False
theorem vw:EntOk Tryz.prog 142 (Ent.pure Ai):=by
 refine Ype fun _ H K h=>?_
 unfold Ai at h
 split at h
 rotate_left
 ·exact h.elim
 rename_i l k
 obtain ⟨m,rfl,hK⟩:=h
 refine ⟨_,hK,?_⟩
 clear hK
 rw [pQ]
 unfold gr fZ
 by_cases k2:k=2
 ·subst k2
  have c3:((2:Int)=3)=False:=eq_false (by decide)
  have c4:((2:Int)=4)=False:=eq_false (by decide)
  simp only [c3,c4,if_true,if_false]
  refine Yfv ax tNq Tryz.func142 [.cell 4 114] fun hcl hlt=>?_
  clear hlt
  simp only [go_sem,beq_self_eq_true]
  exact Z0
 by_cases k3:k=3
 ·subst k3
  have c2:((3:Int)==2)=false:=rfl
  have c2':((3:Int)=2)=False:=eq_false (by decide)
  have c4:((3:Int)=4)=False:=eq_false (by decide)
  simp only [c2',c4,if_true,if_false]
  refine Yfv ax tNq Tryz.func142 [.cell 4 114] fun hcl hlt=>?_
  clear hlt
  simp only [go_sem,c2,beq_self_eq_true]
  exact Z0
 by_cases k4:k=4
 ·subst k4
  have c2:((4:Int)==2)=false:=rfl
  have c3:((4:Int)==3)=false:=rfl
  have c2':((4:Int)=2)=False:=eq_false (by decide)
  have c3':((4:Int)=3)=False:=eq_false (by decide)
  simp only [c2',c3',if_true,if_false]
  refine Yfv ax tNq Tryz.func142 [.cell 4 114] fun hcl hlt=>?_
  clear hlt
  simp only [go_sem,c2,c3,beq_self_eq_true]
  exact Z0
 have b2:(k==2)=false:=by simpa using k2
 have b3:(k==3)=false:=by simpa using k3
 have b4:(k==4)=false:=by simpa using k4
 rw [if_neg k2,if_neg k3,if_neg k4]
 refine Yfv ax tNq Tryz.func142 [.cell 4 114] fun hcl hlt=>?_
 clear hlt
 simp only [go_sem,b2,b3,b4]
 exact Z0
def th:List AV→AHeap→(AV→Prop)→Prop
 |[.agg l,.int .i64 k],_,K=>∃ m:SMatch,l=bE m∧K (.bool (j0 m k))
 |_,_,_=>False
theorem rc:EntOk Tryz.prog 68 (Ent.pure th):=by
 refine Ype fun _ H K h=>?_
 unfold th at h
 split at h
 rotate_left
 ·exact h.elim
 rename_i l k
 obtain ⟨m,rfl,hK⟩:=h
 refine ⟨_,hK,?_⟩
 clear hK
 rw [pQ]
 unfold j0
 have tz:=iT (m:=m) (n:=cu)
 have tu:=iT (m:=m) (n:=gr m k)
 change teq Tryz.prog 9 114 (.agg [.bool m.present,.int .u64 ((m.value/2^64:Nat):Int),.int .u64 ((m.value % 2^64:Nat):Int),.int .u64 ((m.mask/2^64:Nat):Int),.int .u64 ((m.mask % 2^64:Nat):Int),.int .i64 m.pfx,.int .u64 ((m.high/2^64:Nat):Int),.int .u64 ((m.high % 2^64:Nat):Int)])
  (.agg [.bool false,.int .u64 0,.int .u64 0,.int .u64 0,.int .u64 0,.int .i64 0,.int .u64 0,.int .u64 0])=_ at tz
 have kne:(k != 1)=decide (k≠1):=by rw [Bool.eq_iff_iff];simp
 cases hp:m.present
 ·rw [if_pos rfl]
  rw [hp] at tz
  cases hz:decide (m=cu)
  ·rw [Bool.false_and]
   rw [hz] at tz
   refine ACalls.fW ax (tCq vw tNq) Tryz.func68 [.tmp 4] (nrq _) (T:=av [(3,[[],[],[],[1]])]) (h:=fun hcl hlt=>?_)
   clear hlt
   simp only [go_sem,fZ,hp,tz,gZ,Bool.bne_false]
   (repeat with_reducible refine Yq ?_)
   exact Z0
  ·rw [Bool.true_and]
   rw [hz] at tz
   refine ACalls.fW ax (tCq vw tNq) Tryz.func68 [.tmp 4] (nrq _) (T:=av [(3,[[],[],[],[1]])]) (h:=fun hcl hlt=>?_)
   clear hlt
   simp only [go_sem,fZ,hp,tz,gZ,Bool.bne_false,kne]
   (repeat with_reducible refine Yq ?_)
   exact Z0
 ·rw [if_neg (by decide)]
  rw [hp] at tu
  refine ACalls.fW ax (tCq vw tNq) Tryz.func68 [.tmp 4] (nrq _) (T:=av [(3,[[],[],[],[1]])]) (h:=fun hcl hlt=>?_)
  clear hlt
  simp only [go_sem,fZ,hp,Ai]
  (repeat with_reducible refine Yq ?_)
  refine ⟨m,by rw [pQ];unfold fZ;rw [hp],?_⟩
  simp only [aM,go_sem,fZ,tu,gZ,Bool.bne_false]
  (repeat with_reducible refine Yq ?_)
  exact Z0
def iM (m:SMatch) (k w:Int):Bool :=
 if ((bl m.value:Nat):Int)≤w∧((bl m.mask:Nat):Int)≤w∧((bl m.high:Nat):Int)≤w then
  (if k=2 then decide (m.pfx ≥ 1∧m.pfx≤w∧m.value &&& jm w m.pfx=m.value)
  else if k=3 then decide (m.mask≠0∧m.value &&& m.mask=m.value)
  else if k=4 then decide (m.value≤m.high∧¬ (m.value=0∧m.high=eT w))
  else true)
 else false
def pG:List AV→AHeap→(AV→Prop)→Prop
 |[.agg l,.int .i64 k,.int .i64 w],_,K=>∃ m:SMatch,(l=bE m∧MOk m)∧K (.bool (iM m k w))
 |_,_,_=>False
theorem uT {x:Nat} (h:x<2^128):((((x/2^64:Nat):Int)==0)&&((((x % 2^64:Nat):Int)==0)&&true))=decide (x=0):=by
 exact Y148
theorem re:EntOk Tryz.prog 69 (Ent.pure pG):=by
 refine Ype fun _ H K h=>?_
 unfold pG at h
 split at h
 rotate_left
 ·exact h.elim
 rename_i l k w
 obtain ⟨m,⟨rfl,hv,hk,hh⟩,hK⟩:=h
 refine ⟨_,hK,?_⟩
 clear hK
 rw [pQ]
 obtain ⟨pr,v,mk,pf,hi⟩:=m
 dsimp only at hv hk hh
 unfold iM
 dsimp only
 have i2:=e9 hv
 have i3:=e9 hk
 have i4:=e9 hh
 have hL:=sn w pf
 have i5:=e9 hL
 have hO:=ka w
 have i6:=e9 hO
 have z2:=uT hv
 have z3:=uT hk
 rw [Bool.and_true] at z2 z3
 have bt1:(true != true)=false:=rfl
 have bf1:(false != true)=true:=rfl
 by_cases b1:((bl v:Nat):Int)≤w
 rotate_left
 ·rw [if_neg (fun h=>b1 h.1)]
  have d1:decide (((bl v:Nat):Int)≤w)=false:=dfq b1
  refine ACalls.fW ax (tCq fD (tCq cj (tCq eo (tCq eZ (tCq cl tNq))))) Tryz.func69 [.tmp 6] (nrq _) (T:=av [(5,[[],[],[],[],[],[],[],[],[],[],[],[],[],[],[],[1,5,14],[1,5,11,14,15]]),(7,[[],[],[],[],[],[],[],[],[],[1,6,8]]),(9,[[],[],[],[],[],[],[],[],[1]])]) (h:=fun hcl hlt=>?_)
  clear hlt
  simp only [go_sem,fZ,fL,i2,i3,i4,iNq,bD,d1]
  (repeat with_reducible refine Yq ?_)
  exact Z0
 have d1:decide (((bl v:Nat):Int)≤w)=true:=dtq b1
 by_cases b2:((bl mk:Nat):Int)≤w
 rotate_left
 ·rw [if_neg (fun h=>b2 h.2.1)]
  have d2:decide (((bl mk:Nat):Int)≤w)=false:=dfq b2
  refine ACalls.fW ax (tCq fD (tCq cj (tCq eo (tCq eZ (tCq cl tNq))))) Tryz.func69 [.tmp 6] (nrq _) (T:=av [(5,[[],[],[],[],[],[],[],[],[],[],[],[],[],[],[],[1,5,14],[1,5,11,14,15]]),(7,[[],[],[],[],[],[],[],[],[],[1,6,8]]),(9,[[],[],[],[],[],[],[],[],[1]])]) (h:=fun hcl hlt=>?_)
  clear hlt
  simp only [go_sem,fZ,fL,i2,i3,i4,iNq,bD,d1,d2]
  (repeat with_reducible refine Yq ?_)
  exact Z0
 have d2:decide (((bl mk:Nat):Int)≤w)=true:=dtq b2
 by_cases b3:((bl hi:Nat):Int)≤w
 rotate_left
 ·rw [if_neg (fun h=>b3 h.2.2)]
  have d3:decide (((bl hi:Nat):Int)≤w)=false:=dfq b3
  refine ACalls.fW ax (tCq fD (tCq cj (tCq eo (tCq eZ (tCq cl tNq))))) Tryz.func69 [.tmp 6] (nrq _) (T:=av [(5,[[],[],[],[],[],[],[],[],[],[],[],[],[],[],[],[1,5,14],[1,5,11,14,15]]),(7,[[],[],[],[],[],[],[],[],[],[1,6,8]]),(9,[[],[],[],[],[],[],[],[],[1]])]) (h:=fun hcl hlt=>?_)
  clear hlt
  simp only [go_sem,fZ,fL,i2,i3,i4,iNq,bD,d1,d2,d3]
  (repeat with_reducible refine Yq ?_)
  exact Z0
 have d3:decide (((bl hi:Nat):Int)≤w)=true:=dtq b3
 rw [if_pos ⟨b1,b2,b3⟩]
 by_cases k2:k=2
 ·subst k2
  rw [if_pos rfl]
  by_cases p1:pf ≥ 1
  rotate_left
  ·rw [dfq (fun h=>p1 h.1)]
   have g1:decide (pf ≥ 1)=false:=dfq p1
   refine ACalls.fW ax (tCq fD (tCq cj (tCq eo (tCq eZ (tCq cl tNq))))) Tryz.func69 [.tmp 6] (nrq _) (T:=av [(5,[[],[],[],[],[],[],[],[],[],[],[],[],[],[],[],[1,5,14],[1,5,11,14,15]]),(7,[[],[],[],[],[],[],[],[],[],[1,6,8]]),(9,[[],[],[],[],[],[],[],[],[1]])]) (h:=fun hcl hlt=>?_)
   clear hlt
   simp only [go_sem,fZ,fL,i2,i3,i4,iNq,bD,d1,d2,d3,beq_self_eq_true,g1]
   (repeat with_reducible refine Yq ?_)
   exact Z0
  have g1:decide (pf ≥ 1)=true:=dtq p1
  by_cases p2:pf≤w
  rotate_left
  ·rw [dfq (fun h=>p2 h.2.1)]
   have g2:decide (pf≤w)=false:=dfq p2
   refine ACalls.fW ax (tCq fD (tCq cj (tCq eo (tCq eZ (tCq cl tNq))))) Tryz.func69 [.tmp 6] (nrq _) (T:=av [(5,[[],[],[],[],[],[],[],[],[],[],[],[],[],[],[],[1,5,14],[1,5,11,14,15]]),(7,[[],[],[],[],[],[],[],[],[],[1,6,8]]),(9,[[],[],[],[],[],[],[],[],[1]])]) (h:=fun hcl hlt=>?_)
   clear hlt
   simp only [go_sem,fZ,fL,i2,i3,i4,iNq,bD,d1,d2,d3,beq_self_eq_true,g1,g2]
   (repeat with_reducible refine Yq ?_)
   exact Z0
  have g2:decide (pf≤w)=true:=dtq p2
  have g3:decide (pf ≥ 1∧pf≤w∧v &&& jm w pf=v)=decide (v &&& jm w pf=v):=by rw [decide_eq_decide];exact ⟨fun h=>h.2.2,fun h=>⟨p1,p2,h⟩⟩
  rw [g3]
  refine ACalls.fW ax (tCq fD (tCq cj (tCq eo (tCq eZ (tCq cl tNq))))) Tryz.func69 [.tmp 6] (nrq _) (T:=av [(5,[[],[],[],[],[],[],[],[],[],[],[],[],[],[],[],[1,5,14],[1,5,11,14,15]]),(7,[[],[],[],[],[],[],[],[],[],[1,6,8]]),(9,[[],[],[],[],[],[],[],[],[1]])]) (h:=fun hcl hlt=>?_)
  clear hlt
  simp only [go_sem,fZ,fL,i2,i3,i4,i5,iNq,bD,d1,d2,d3,beq_self_eq_true,g1,g2,ld,kF,p2V,vv,cF,cE,Bool.bne_false,fo,eu]
  (repeat with_reducible refine Yq ?_)
  exact Z0
 rw [if_neg k2]
 have n2:(k==2)=false:=by simpa using k2
 by_cases k3:k=3
 ·subst k3
  rw [if_pos rfl]
  have c2:((3:Int)==2)=false:=rfl
  by_cases p1:mk=0
  ·rw [dfq (fun h=>h.1 p1)]
   have g1:decide (mk=0)=true:=dtq p1
   exact Y35
  have g1:decide (mk=0)=false:=dfq p1
  have g3:decide (mk≠0∧v &&& mk=v)=decide (v &&& mk=v):=by rw [decide_eq_decide];exact ⟨fun h=>h.2,fun h=>⟨p1,h⟩⟩
  rw [g3]
  exact Y35
 rw [if_neg k3]
 have n3:(k==3)=false:=by simpa using k3
 by_cases k4:k=4
 ·subst k4
  rw [if_pos rfl]
  have c2:((4:Int)==2)=false:=rfl
  have c3:((4:Int)==3)=false:=rfl
  by_cases p1:v=0
  ·have g1:decide (v=0)=true:=dtq p1
   have g3:decide (v≤hi∧¬ (v=0∧hi=eT w))=(decide (v≤hi)&&!decide (hi=eT w)):=by
    rw [Bool.eq_iff_iff];simp [p1]
   rw [g3]
   cases q:decide (v≤hi)
   ·rw [Bool.false_and]
    exact Y8
   ·rw [Bool.true_and]
    exact Y8
  ·have g1:decide (v=0)=false:=dfq p1
   have g3:decide (v≤hi∧¬ (v=0∧hi=eT w))=decide (v≤hi):=by
    exact Y172
   rw [g3]
   cases q:decide (v≤hi)
   ·skip
    exact Y8
   ·skip
    exact Y8
 rw [if_neg k4]
 have n4:(k==4)=false:=by simpa using k4
 refine ACalls.fW ax (tCq fD (tCq cj (tCq eo (tCq eZ (tCq cl tNq))))) Tryz.func69 [.tmp 6] (nrq _) (T:=av [(5,[[],[],[],[],[],[],[],[],[],[],[],[],[],[],[],[1,5,14],[1,5,11,14,15]]),(7,[[],[],[],[],[],[],[],[],[],[1,6,8]]),(9,[[],[],[],[],[],[],[],[],[1]])]) (h:=fun hcl hlt=>?_)
 clear hlt
 simp only [go_sem,fZ,fL,i2,i3,i4,i5,i6,iNq,bD,d1,d2,d3,beq_self_eq_true,cF,cE,Bool.bne_false,z2,z3,bt1,bf1,kF,jo,eY,p2V,vv,fo,eu,fm,n2,n3,n4]
 (repeat with_reducible refine Yq ?_)
 exact Z0
def nf (t:STable):Bool:=decide (0≤ixP (fun k:SKey=>k.kind==3||k.kind==4) t.keys 0)
def DJ:List AV→AHeap→(AV→Prop)→Prop
 |[.slice _ 3 l,.func (.func 148) [] []],_,K=>∃ ts:List SKey,(l=ts.map bL∧ts.length≤1000000)∧K (.bool (decide (0≤ixP (fun k:SKey=>k.kind==3||k.kind==4) ts 0)))
 |_,_,_=>False
theorem Lz:EntOk Tryz.prog 147 (Ent.pure DJ):=by
 refine Ype fun _ H K h=>?_
 unfold DJ at h
 split at h
 rotate_left
 ·exact h.elim
 rename_i m l
 obtain ⟨ts,⟨rfl,hl⟩,hK⟩:=h
 refine ⟨_,hK,?_⟩
 clear hK
 refine Yfv ax (tCq MS tNq) Tryz.func147 [.tmp 4] fun hcl hlt=>?_
 clear hlt
 simp only [go_sem,D5]
 refine ⟨ts,⟨rfl,hl⟩,?_⟩
 exact Y99
def s9:List AV→AHeap→(AV→Prop)→Prop
 |[.agg l],_,K=>∃ t:STable,(.agg l=aV t∧t.keys.length≤1000000)∧K (.bool (nf t))
 |_,_,_=>False
theorem q0:EntOk Tryz.prog 71 (Ent.pure s9):=by
 refine Ype fun _ H K h=>?_
 unfold s9 at h
 split at h
 rotate_left
 ·exact h.elim
 rename_i l
 obtain ⟨t,⟨e,hl⟩,hK⟩:=h
 refine ⟨_,hK,?_⟩
 clear hK
 rw [e]
 unfold aV nf
 refine Yfv ax (tCq Lz tNq) Tryz.func71 [.tmp 2] fun hcl hlt=>?_
 clear hlt
 simp only [go_sem,DJ]
 (repeat with_reducible refine Yq ?_)
 refine ⟨t.keys,⟨rfl,hl⟩,?_⟩
 exact Y99
def eQ (S:Sch):List SMatch→List SKey→Int
 |m::ms,k::ks=>if j0 m k.kind=false then 13 else if (m.present&&!iM m k.kind (cR S k.field))=true then 5 else eQ S ms ks
 |_,_=>0
def EO (t:STable) (p:Int):Int:=if nf t=true then (if p<1∨p > 65535 then 14 else 0) else (if p<0∨p > 0 then 14 else 0)
def fY (S:Sch) (e:SEntry):Int:=match tC S e.table with
 |none=>6
 |some t=>if e.ms.length=t.keys.length then (if eQ S e.ms t.keys=0 then EO t e.prio else eQ S e.ms t.keys) else 13
def ku:List AV→AHeap→(AV→Prop)→Prop
 |[.agg l,.agg le],_,K=>∃ (S:Sch) (e:SEntry),(l=bv S∧le=bG e∧S.tables.length≤1000000∧S.fields.length≤1000000∧(∀ t∈S.tables,t.keys.length≤1000000)∧EOk e)∧K (.int .i64 (fY S e))
 |_,_,_=>False
theorem nJ:EntOk Tryz.prog 21 (Ent.pure ku):=by
 refine Ype fun _ H K h=>?_
 unfold ku at h
 split at h
 rotate_left
 ·exact h.elim
 rename_i l le
 obtain ⟨S,e,⟨rfl,rfl,h1,h2,h3,h4,h5,h6⟩,hK⟩:=h
 refine ⟨_,hK,?_⟩
 clear hK
 generalize hR:fY S e=R
 unfold fY at hR
 have htm:∀ t,tC S e.table=some t→t∈S.tables:=fun t ht=>List.mem_of_find?_eq_some ht
 cases ht:tC S e.table with
 |none =>
  rw [ht] at hR
  subst hR
  refine ACalls.fW ax (tCq pV (tCq rc (tCq qQ (tCq re (tCq q0 tNq))))) Tryz.func21 [.tmp 4] (nrq _) (T:=av [(9,[[],[],[],[],[],[],[],[0,2,6]]),(11,[[],[],[],[],[],[],[],[],[],[],[],[],[],[],[],[],[1,10,12,15],[1,3,5,9,10,12,15,16]])]) (h:=fun hcl hlt=>?_)
  clear hlt
  simp only [go_sem,bv,bG,mM]
  (repeat with_reducible refine Yq ?_)
  refine ⟨S,⟨rfl,h1⟩,?_⟩
  rw [ht]
  try simp only [aM,go_sem,aV,sm,yaf,inL]
  exact Z0
 |some t =>
  rw [ht] at hR
  dsimp only at hR
  have hkl:=h3 t (htm t ht)
  by_cases hlen:e.ms.length=t.keys.length
  rotate_left
  ·rw [if_neg hlen] at hR
   subst hR
   have d1:((e.ms.length:Int) != (t.keys.length:Int))=true:=by simp;omega
   refine ACalls.fW ax (tCq pV (tCq rc (tCq qQ (tCq re (tCq q0 tNq))))) Tryz.func21 [.tmp 4] (nrq _) (T:=av [(9,[[],[],[],[],[],[],[],[0,2,6]]),(11,[[],[],[],[],[],[],[],[],[],[],[],[],[],[],[],[],[1,10,12,15],[1,3,5,9,10,12,15,16]])]) (h:=fun hcl hlt=>?_)
   clear hlt
   simp only [go_sem,bv,bG,mM]
   (repeat with_reducible refine Yq ?_)
   refine ⟨S,⟨rfl,h1⟩,?_⟩
   rw [ht]
   try simp only [aM,go_sem,aV,ybb,d1]
   exact Z0
  rw [if_pos hlen] at hR
  have d1:((e.ms.length:Int) != (t.keys.length:Int))=false:=by simp;omega
  obtain ⟨tc,htc⟩:∃ tc,tc=[AV.int .i64 t.id,.str t.name,.slice .any 3 (t.keys.map bL),.slice .any 1 (inL t.actions),.int .i64 t.dflt,.slice .any 2 (t.dargs.map vv),.int .i64 t.size,.str t.restr]:=⟨_,rfl⟩
  refine ACalls.fW ax (tCq pV (tCq rc (tCq qQ (tCq re (tCq q0 tNq))))) Tryz.func21 [.tmp 4] (nrq _) (T:=av [(9,[[],[],[],[],[],[],[],[0,2,6]]),(11,[[],[],[],[],[],[],[],[],[],[],[],[],[],[],[],[],[1,10,12,15],[1,3,5,9,10,12,15,16]])]) (h:=fun hcl hlt=>?_)
  clear hlt
  simp only [go_sem,bv,bG,mM]
  (repeat with_reducible refine Yq ?_)
  refine ⟨S,⟨rfl,h1⟩,?_⟩
  rw [ht]
  simp only [aM,go_sem,aV,ybb,d1]
  obtain ⟨HB,hHB⟩:∃ HB,((H.push (.cells (bv S))).push (.cells (bG e))).push (.cells tc)=HB:=⟨_,rfl⟩
  have hclB:HB.Closed:=by
   rw [← hHB,htc]
   exact ae (ae (ae hcl (ltL_iff.2 fun j hj=>AV.lt_cells (tf S) j hj)) (ltL_iff.2 fun j hj=>AV.lt_cells (gE e) j hj)) (ltL_iff.2 fun j hj=>AV.lt_cells (cZ t) j hj)
  have hnB:HB.nx=H.nx+1+1+1:=by rw [← hHB];rfl
  refine az (A:=Nat) (fun k=>[(2,.ptr H.nx 0),(3,.ptr (H.nx+1) 0),(5,.ptr (H.nx+1+1) 0),(27,.slice .any 8 (e.ms.map aQ)),(28,.int .i64 (e.ms.length:Int)),(29,.int .i64 (k:Int))]) (fun _=>HB) (fun k=>k≤e.ms.length∧(if eQ S (e.ms.drop k) (t.keys.drop k)=0 then EO t e.prio else eQ S (e.ms.drop k) (t.keys.drop k))=R) (fun k=>e.ms.length - k) 0 ⟨by omega,hR⟩ ?_ fun k hk=>?_
  ·refine ⟨by simp only [hnB,zkm,zkr];omega,by rw [← hHB,htc];exact lRq _,hclB,?_,?_⟩
   ·simp [ltF,hnB,znj,znb,bw iF]
    omega
   ·exact Y10
  clear hR
  obtain ⟨hk,hR⟩:=hk
  simp only [go_sem]
  refine au (fun hc=>?_) (fun hc=>?_)
  ·have hk':k<e.ms.length:=by simp at hc;omega
   have hk2:k<t.keys.length:=by omega
   obtain ⟨x,hx⟩:∃ x,x=t.keys[k]:=⟨_,rfl⟩
   obtain ⟨m,hm⟩:∃ m,m=e.ms[k]:=⟨_,rfl⟩
   have hd:t.keys.drop k=x::t.keys.drop (k+1):=by rw [hx];exact dcq hk2
   have hd2:e.ms.drop k=m::e.ms.drop (k+1):=by rw [hm];exact dcq hk'
   have hkg:=bC (f:=bL) (l:=t.keys) (k:=k) (x:=x) (by rw [gQq hk2,hx])
   have hmg:=bC (f:=aQ) (l:=e.ms) (k:=k) (x:=m) (by rw [gQq hk',hm])
   have hmo:=h6 m (by rw [hm];exact gMq hk')
   have e5:=Yk5 k
   rw [hd,hd2] at hR
   rw [← hHB,htc]
   simp only [go_sem,bv,bG,iNq,ybb,hkg,bL,hmg,aQ,vc,bE,yal,yak,th]
   (repeat with_reducible refine Yq ?_)
   refine ⟨m,rfl,?_⟩
   cases hf:j0 m x.kind
   ·have hck:eQ S (m::e.ms.drop (k+1)) (x::t.keys.drop (k+1))=13:=by unfold eQ;rw [if_pos hf]
    rw [hck,if_neg (by decide)] at hR
    subst hR
    simp only [aM,go_sem,Bool.not_false]
    (repeat with_reducible refine Yq ?_)
    exact Y12
   cases hp:m.present
   ·have hck:eQ S (m::e.ms.drop (k+1)) (x::t.keys.drop (k+1))=eQ S (e.ms.drop (k+1)) (t.keys.drop (k+1)):=by
     rw [eQ,if_neg (by rw [hf];decide),hp,Bool.false_and,if_neg (by decide)]
    rw [hck] at hR
    simp only [aM,go_sem,Bool.not_true,Bool.not_false,bv,bG,iNq,ybb,hkg,bL,hmg,aQ,vc,bE,yal,yak,hp,e5]
    rw [← htc]
    refine ⟨k+1,⟨by omega,hR⟩,by omega,by simp only [zla];omega,(lRq _).push _,by rw [← hHB] at hclB;exact hclB,?_,?_⟩
    ·simp [ltF,zla,znj,znb,bw iF]
     omega
    ·exact Y10
   have hsim:∀ q,iM m x.kind (cR S x.field)=q→eQ S (m::e.ms.drop (k+1)) (x::t.keys.drop (k+1))=if q=true then eQ S (e.ms.drop (k+1)) (t.keys.drop (k+1)) else 5:=fun q hq=>by
    rw [eQ,if_neg (by rw [hf];decide),hp,hq,Bool.true_and]
    cases q<;>rfl
   simp only [aM,go_sem,Bool.not_true,Bool.not_false,bv,bG,iNq,ybb,hkg,bL,hmg,aQ,vc,bE,yal,yak,hp,e5,pH,pG]
   (repeat with_reducible refine Yq ?_)
   refine ⟨S,⟨rfl,h2⟩,?_⟩
   try simp only [aM,go_sem,Bool.not_true,Bool.not_false,bv,bG,iNq,ybb,hkg,bL,hmg,aQ,vc,bE,yal,yak,hp,e5,pH,pG]
   refine ⟨m,⟨by rw [hp],hmo⟩,?_⟩
   cases hq:iM m x.kind (cR S x.field)
   ·rw [hsim _ hq,show (if false=true then eQ S (e.ms.drop (k+1)) (t.keys.drop (k+1)) else 5)=(5:Int) from rfl,if_neg (by decide)] at hR
    subst hR
    simp only [aM,go_sem,Bool.not_false]
    (repeat with_reducible refine Yq ?_)
    exact Y12
   ·rw [hsim _ hq,if_pos rfl] at hR
    simp only [aM,go_sem,Bool.not_true,e5]
    (repeat with_reducible refine Yq ?_)
    rw [← htc]
    refine ⟨k+1,⟨by omega,hR⟩,by omega,by simp only [zla];omega,(lRq _).push _,by rw [← hHB] at hclB;exact hclB,?_,?_⟩
    ·simp [ltF,zla,znj,znb,bw iF]
     omega
    ·exact Y10
  ·have hk':k=e.ms.length:=by simp at hc;omega
   subst hk'
   rw [List.drop_length] at hR
   have hck:eQ S [] (t.keys.drop e.ms.length)=0:=by unfold eQ;rfl
   rw [hck,if_pos rfl] at hR
   unfold EO at hR
   rw [← hHB,htc]
   simp only [go_sem,bv,bG,s9]
   refine ⟨t,⟨rfl,hkl⟩,?_⟩
   cases hrk:nf t
   ·rw [hrk,if_neg (by decide)] at hR
    simp only [aM,go_sem,bG]
    by_cases p1:e.prio<0
    ·rw [if_pos (.inl p1)] at hR
     subst hR
     have d1:decide (e.prio<0)=true:=dtq p1
     try simp only [aM,go_sem,bG,d1]
     exact Y12
    ·have d1:decide (e.prio<0)=false:=dfq p1
     by_cases p2:e.prio > 0
     ·rw [if_pos (.inr p2)] at hR
      subst hR
      have d2:decide (e.prio > 0)=true:=dtq p2
      try simp only [aM,go_sem,bG,d1,d2]
      exact Y12
     ·rw [if_neg (by omega)] at hR
      subst hR
      have d2:decide (e.prio > 0)=false:=dfq p2
      try simp only [aM,go_sem,bG,d1,d2]
      exact Y12
   ·rw [hrk,if_pos rfl] at hR
    simp only [aM,go_sem,bG]
    by_cases p1:e.prio<1
    ·rw [if_pos (.inl p1)] at hR
     subst hR
     have d1:decide (e.prio<1)=true:=dtq p1
     try simp only [aM,go_sem,bG,d1]
     exact Y12
    ·have d1:decide (e.prio<1)=false:=dfq p1
     by_cases p2:e.prio > 65535
     ·rw [if_pos (.inr p2)] at hR
      subst hR
      have d2:decide (e.prio > 65535)=true:=dtq p2
      try simp only [aM,go_sem,bG,d1,d2]
      exact Y12
     ·rw [if_neg (by omega)] at hR
      subst hR
      have d2:decide (e.prio > 65535)=false:=dfq p2
      try simp only [aM,go_sem,bG,d1,d2]
      exact Y12
end Go.AL
