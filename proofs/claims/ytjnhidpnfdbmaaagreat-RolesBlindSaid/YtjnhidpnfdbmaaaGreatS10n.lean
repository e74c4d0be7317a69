/- Lemmas of the proof; no condition. -/
import Derived.Test.YtjnhidpnfdbmaaaGreatS10j
set_option linter.all false
set_option maxRecDepth 10000
set_option maxHeartbeats 32000000
open List renaming length_cons → yaz, length_nil → yba, take_of_length_le → ybc, drop_append → ybd, take_append → ybe, drop_eq_nil_of_le → ybf, map_nil → yaf, length_map → ybb, cons_append → yal, nil_append → yak
open Go Go.AL Go.Proofs
namespace Go.AL
structure MOk (m:SMatch):Prop where
 v:m.value<2^128
 k:m.mask<2^128
 h:m.high<2^128
theorem gE {x y:Nat}:((((x/2^64:Nat):Int)==((y/2^64:Nat):Int))&&((((x % 2^64:Nat):Int)==((y % 2^64:Nat):Int))&&true))=decide (x=y):=by
 rw [Bool.eq_iff_iff]
 simp only [Bool.and_eq_true,beq_iff_eq,decide_eq_true_eq,and_true]
 omega
theorem fo {x y:Nat}:((((x/2^64:Nat):Int)==((y/2^64:Nat):Int))&&(((x % 2^64:Nat):Int)==((y % 2^64:Nat):Int)))=decide (x=y):=by
 rw [← gE,Bool.and_true]
theorem gS {x:Nat} (h:x<2^128):isV ((x/2^64:Nat):Int) ((x % 2^64:Nat):Int)=True:=eq_true (by unfold isV;omega)
theorem ls {x y:Nat}:decide (fq x y≤0)=decide (x≤y):=by
 unfold fq
 rw [decide_eq_decide]
 split
 ·simp;omega
 ·split<;>simp<;>omega
structure EOk (e:SEntry):Prop where
 ml:e.ms.length≤140737488355328
 al:e.args.length≤140737488355328
 mo:∀ m∈e.ms,MOk m
def BG (m:SMatch) (kind:Int):SMatch:=⟨true,m.value,if kind=3 then m.mask else 0,if kind=2 then m.pfx else 0,if kind=4 then m.high else 0⟩
def sB (m:SMatch) (kind:Int):Bool:=if m.present=false then decide (m=cA)&&decide (kind≠1) else decide (m=BG m kind)
theorem oC:Tryz.prog.eqGuardType Tryz.prog.depth 47=false:=by kernel_rfl
theorem uB {m n:SMatch}:teq Tryz.prog 9 47 (.agg [.bool m.present,.int .u64 ((m.value/2^64:Nat):Int),.int .u64 ((m.value % 2^64:Nat):Int),.int .u64 ((m.mask/2^64:Nat):Int),.int .u64 ((m.mask % 2^64:Nat):Int),.int .i64 m.pfx,.int .u64 ((m.high/2^64:Nat):Int),.int .u64 ((m.high % 2^64:Nat):Int)])
 (.agg [.bool n.present,.int .u64 ((n.value/2^64:Nat):Int),.int .u64 ((n.value % 2^64:Nat):Int),.int .u64 ((n.mask/2^64:Nat):Int),.int .u64 ((n.mask % 2^64:Nat):Int),.int .i64 n.pfx,.int .u64 ((n.high/2^64:Nat):Int),.int .u64 ((n.high % 2^64:Nat):Int)])=some (decide (m=n)):=by
 have g1:Tryz.prog.stoodInHeld 47=false:=by kernel_rfl
 have g2:Tryz.prog.stoodInHeld 29=false:=by kernel_rfl
 by_cases h:m=n
 ·subst h
  simp [qC,nD,teq,teq.go,teq.part,sx,wF,uJ,ceq,g1,g2,TD.agg]
 ·rw [dfq h]
  obtain ⟨p,v,k,f,hh⟩:=m
  obtain ⟨p',v',k',f',h'⟩:=n
  dsimp only
  generalize h1:v/2^64=a1
  generalize h2:v % 2^64=a2
  generalize h3:v'/2^64=b1
  generalize h4:v' % 2^64=b2
  generalize h5:k/2^64=a3
  generalize h6:k % 2^64=a4
  generalize h7:k'/2^64=b3
  generalize h8:k' % 2^64=b4
  generalize h9:hh/2^64=a5
  generalize h10:hh % 2^64=a6
  generalize h11:h'/2^64=b5
  generalize h12:h' % 2^64=b6
  simp [qC,nD,teq,teq.go,teq.part,sx,wF,uJ,ceq,g1,g2,TD.agg]
  intro q1 q2 q3 q4 q5 q6 q7 q8
  apply h
  rw [q1,q6,show v=v' by omega,show k=k' by omega,show hh=h' by omega]
def ky (m:SMatch):List AV:=[.bool m.present,.int .u64 ((m.value/2^64:Nat):Int),.int .u64 ((m.value % 2^64:Nat):Int),.int .u64 ((m.mask/2^64:Nat):Int),.int .u64 ((m.mask % 2^64:Nat):Int),.int .i64 m.pfx,.int .u64 ((m.high/2^64:Nat):Int),.int .u64 ((m.high % 2^64:Nat):Int)]
theorem sq (m:SMatch):bq m=ky m:=rfl
def wJ:List AV→AHeap→(AV→Prop)→Prop
 |[.agg l,.int .i64 k],_,K=>∃ m:SMatch,l=bq m∧K (.agg (ky (BG m k)))
 |_,_,_=>False
theorem tM:EntOk Tryz.prog 102 (Ent.pure wJ):=by
 refine Ype fun _ H K h=>?_
 unfold wJ at h
 split at h
 rotate_left
 ·exact h.elim
 rename_i l k
 obtain ⟨m,rfl,hK⟩:=h
 refine ⟨_,hK,?_⟩
 clear hK
 rw [sq]
 unfold BG ky
 by_cases k2:k=2
 ·subst k2
  have c3:((2:Int)=3)=False:=eq_false (by decide)
  have c4:((2:Int)=4)=False:=eq_false (by decide)
  simp only [c3,c4,if_true,if_false]
  refine ACalls.fW au tNq Tryz.func102 [.cell 4 47] (nrq _) (T:=aq []) (h:=fun hcl hlt=>?_)
  clear hlt
  simp only [go_sem,beq_self_eq_true]
  exact Z0
 by_cases k3:k=3
 ·subst k3
  have c2:((3:Int)==2)=false:=rfl
  have c2':((3:Int)=2)=False:=eq_false (by decide)
  have c4:((3:Int)=4)=False:=eq_false (by decide)
  simp only [c2',c4,if_true,if_false]
  refine ACalls.fW au tNq Tryz.func102 [.cell 4 47] (nrq _) (T:=aq []) (h:=fun hcl hlt=>?_)
  clear hlt
  simp only [go_sem,c2,beq_self_eq_true]
  exact Z0
 by_cases k4:k=4
 ·subst k4
  have c2:((4:Int)==2)=false:=rfl
  have c3:((4:Int)==3)=false:=rfl
  have c2':((4:Int)=2)=False:=eq_false (by decide)
  have c3':((4:Int)=3)=False:=eq_false (by decide)
  simp only [c2',c3',if_true,if_false]
  refine ACalls.fW au tNq Tryz.func102 [.cell 4 47] (nrq _) (T:=aq []) (h:=fun hcl hlt=>?_)
  clear hlt
  simp only [go_sem,c2,c3,beq_self_eq_true]
  exact Z0
 have b2:(k==2)=false:=by simpa using k2
 have b3:(k==3)=false:=by simpa using k3
 have b4:(k==4)=false:=by simpa using k4
 rw [if_neg k2,if_neg k3,if_neg k4]
 refine ACalls.fW au tNq Tryz.func102 [.cell 4 47] (nrq _) (T:=aq []) (h:=fun hcl hlt=>?_)
 clear hlt
 simp only [go_sem,b2,b3,b4]
 exact Z0
def qN:List AV→AHeap→(AV→Prop)→Prop
 |[.agg l,.int .i64 k],_,K=>∃ m:SMatch,l=bq m∧K (.bool (sB m k))
 |_,_,_=>False
theorem oR:EntOk Tryz.prog 71 (Ent.pure qN):=by
 refine Ype fun _ H K h=>?_
 unfold qN at h
 split at h
 rotate_left
 ·exact h.elim
 rename_i l k
 obtain ⟨m,rfl,hK⟩:=h
 refine ⟨_,hK,?_⟩
 clear hK
 rw [sq]
 unfold sB
 have tz:=uB (m:=m) (n:=cA)
 have tu:=uB (m:=m) (n:=BG m k)
 change teq Tryz.prog 9 47 (.agg [.bool m.present,.int .u64 ((m.value/2^64:Nat):Int),.int .u64 ((m.value % 2^64:Nat):Int),.int .u64 ((m.mask/2^64:Nat):Int),.int .u64 ((m.mask % 2^64:Nat):Int),.int .i64 m.pfx,.int .u64 ((m.high/2^64:Nat):Int),.int .u64 ((m.high % 2^64:Nat):Int)])
  (.agg [.bool false,.int .u64 0,.int .u64 0,.int .u64 0,.int .u64 0,.int .i64 0,.int .u64 0,.int .u64 0])=_ at tz
 have kne:(k != 1)=decide (k≠1):=by rw [Bool.eq_iff_iff];simp
 cases hp:m.present
 ·rw [if_pos rfl]
  rw [hp] at tz
  cases hz:decide (m=cA)
  ·rw [Bool.false_and]
   rw [hz] at tz
   refine ACalls.fW au (tCq tM tNq) Tryz.func71 [.tmp 4] (nrq _) (T:=aq [(3,[[],[],[],[1]])]) (h:=fun hcl hlt=>?_)
   clear hlt
   simp only [go_sem,ky,hp,tz,oC,Bool.bne_false]
   (repeat with_reducible refine Yq ?_)
   exact Z0
  ·rw [Bool.true_and]
   rw [hz] at tz
   refine ACalls.fW au (tCq tM tNq) Tryz.func71 [.tmp 4] (nrq _) (T:=aq [(3,[[],[],[],[1]])]) (h:=fun hcl hlt=>?_)
   clear hlt
   simp only [go_sem,ky,hp,tz,oC,Bool.bne_false,kne]
   (repeat with_reducible refine Yq ?_)
   exact Z0
 ·rw [if_neg (by decide)]
  rw [hp] at tu
  refine ACalls.fW au (tCq tM tNq) Tryz.func71 [.tmp 4] (nrq _) (T:=aq [(3,[[],[],[],[1]])]) (h:=fun hcl hlt=>?_)
  clear hlt
  simp only [go_sem,ky,hp,wJ]
  (repeat with_reducible refine Yq ?_)
  refine ⟨m,by rw [sq];unfold ky;rw [hp],?_⟩
  simp only [aH,go_sem,ky,tu,oC,Bool.bne_false]
  (repeat with_reducible refine Yq ?_)
  exact Z0
def pH (m:SMatch) (k w:Int):Bool :=
 if ((bl m.value:Nat):Int)≤w∧((bl m.mask:Nat):Int)≤w∧((bl m.high:Nat):Int)≤w then
  (if k=2 then decide (m.pfx ≥ 1∧m.pfx≤w∧m.value &&& tt w m.pfx=m.value)
  else if k=3 then decide (m.mask≠0∧m.value &&& m.mask=m.value)
  else if k=4 then decide (m.value≤m.high∧¬ (m.value=0∧m.high=jh w))
  else true)
 else false
def ny:List AV→AHeap→(AV→Prop)→Prop
 |[.agg l,.int .i64 k,.int .i64 w],_,K=>∃ m:SMatch,(l=bq m∧MOk m)∧K (.bool (pH m k w))
 |_,_,_=>False
theorem Bu {x:Nat} (h:x<2^128):((((x/2^64:Nat):Int)==0)&&((((x % 2^64:Nat):Int)==0)&&true))=decide (x=0):=by
 rw [Bool.eq_iff_iff]
 simp only [Bool.and_eq_true,beq_iff_eq,decide_eq_true_eq,and_true]
 omega
theorem oh:EntOk Tryz.prog 72 (Ent.pure ny):=by
 refine Ype fun _ H K h=>?_
 unfold ny at h
 split at h
 rotate_left
 ·exact h.elim
 rename_i l k w
 obtain ⟨m,⟨rfl,hv,hk,hh⟩,hK⟩:=h
 refine ⟨_,hK,?_⟩
 clear hK
 rw [sq]
 obtain ⟨pr,v,mk,pf,hi⟩:=m
 dsimp only at hv hk hh
 unfold pH
 dsimp only
 have i2:=gS hv
 have i3:=gS hk
 have i4:=gS hh
 have hL:=G7 w pf
 have i5:=gS hL
 have hO:=mG w
 have i6:=gS hO
 have z2:=Bu hv
 have z3:=Bu hk
 rw [Bool.and_true] at z2 z3
 have bt1:(true != true)=false:=rfl
 have bf1:(false != true)=true:=rfl
 by_cases b1:((bl v:Nat):Int)≤w
 rotate_left
 ·rw [if_neg (fun h=>b1 h.1)]
  have d1:decide (((bl v:Nat):Int)≤w)=false:=dfq b1
  refine ACalls.fW au (tCq d9 (tCq cH (tCq fL (tCq dK (tCq cI tNq))))) Tryz.func72 [.tmp 6] (nrq _) (T:=aq [(5,[[],[],[],[],[],[],[],[],[],[],[],[],[],[],[],[1,5,14],[1,5,11,14,15]]),(7,[[],[],[],[],[],[],[],[],[],[1,6,8]]),(9,[[],[],[],[],[],[],[],[],[1]])]) (h:=fun hcl hlt=>?_)
  clear hlt
  simp only [go_sem,ky,eA,i2,i3,i4,iNq,cu,d1]
  (repeat with_reducible refine Yq ?_)
  exact Z0
 have d1:decide (((bl v:Nat):Int)≤w)=true:=dtq b1
 by_cases b2:((bl mk:Nat):Int)≤w
 rotate_left
 ·rw [if_neg (fun h=>b2 h.2.1)]
  have d2:decide (((bl mk:Nat):Int)≤w)=false:=dfq b2
  refine ACalls.fW au (tCq d9 (tCq cH (tCq fL (tCq dK (tCq cI tNq))))) Tryz.func72 [.tmp 6] (nrq _) (T:=aq [(5,[[],[],[],[],[],[],[],[],[],[],[],[],[],[],[],[1,5,14],[1,5,11,14,15]]),(7,[[],[],[],[],[],[],[],[],[],[1,6,8]]),(9,[[],[],[],[],[],[],[],[],[1]])]) (h:=fun hcl hlt=>?_)
  clear hlt
  simp only [go_sem,ky,eA,i2,i3,i4,iNq,cu,d1,d2]
  (repeat with_reducible refine Yq ?_)
  exact Z0
 have d2:decide (((bl mk:Nat):Int)≤w)=true:=dtq b2
 by_cases b3:((bl hi:Nat):Int)≤w
 rotate_left
 ·rw [if_neg (fun h=>b3 h.2.2)]
  have d3:decide (((bl hi:Nat):Int)≤w)=false:=dfq b3
  refine ACalls.fW au (tCq d9 (tCq cH (tCq fL (tCq dK (tCq cI tNq))))) Tryz.func72 [.tmp 6] (nrq _) (T:=aq [(5,[[],[],[],[],[],[],[],[],[],[],[],[],[],[],[],[1,5,14],[1,5,11,14,15]]),(7,[[],[],[],[],[],[],[],[],[],[1,6,8]]),(9,[[],[],[],[],[],[],[],[],[1]])]) (h:=fun hcl hlt=>?_)
  clear hlt
  simp only [go_sem,ky,eA,i2,i3,i4,iNq,cu,d1,d2,d3]
  (repeat with_reducible refine Yq ?_)
  exact Z0
 have d3:decide (((bl hi:Nat):Int)≤w)=true:=dtq b3
 rw [if_pos ⟨b1,b2,b3⟩]
 by_cases k2:k=2
 ·subst k2
  rw [if_pos rfl]
  by_cases p1:pf ≥ 1
  rotate_left
  ·rw [dfq (fun h=>p1 h.1)]
   have g1:decide (pf ≥ 1)=false:=dfq p1
   refine ACalls.fW au (tCq d9 (tCq cH (tCq fL (tCq dK (tCq cI tNq))))) Tryz.func72 [.tmp 6] (nrq _) (T:=aq [(5,[[],[],[],[],[],[],[],[],[],[],[],[],[],[],[],[1,5,14],[1,5,11,14,15]]),(7,[[],[],[],[],[],[],[],[],[],[1,6,8]]),(9,[[],[],[],[],[],[],[],[],[1]])]) (h:=fun hcl hlt=>?_)
   clear hlt
   simp only [go_sem,ky,eA,i2,i3,i4,iNq,cu,d1,d2,d3,beq_self_eq_true,g1]
   (repeat with_reducible refine Yq ?_)
   exact Z0
  have g1:decide (pf ≥ 1)=true:=dtq p1
  by_cases p2:pf≤w
  rotate_left
  ·rw [dfq (fun h=>p2 h.2.1)]
   have g2:decide (pf≤w)=false:=dfq p2
   refine ACalls.fW au (tCq d9 (tCq cH (tCq fL (tCq dK (tCq cI tNq))))) Tryz.func72 [.tmp 6] (nrq _) (T:=aq [(5,[[],[],[],[],[],[],[],[],[],[],[],[],[],[],[],[1,5,14],[1,5,11,14,15]]),(7,[[],[],[],[],[],[],[],[],[],[1,6,8]]),(9,[[],[],[],[],[],[],[],[],[1]])]) (h:=fun hcl hlt=>?_)
   clear hlt
   simp only [go_sem,ky,eA,i2,i3,i4,iNq,cu,d1,d2,d3,beq_self_eq_true,g1,g2]
   (repeat with_reducible refine Yq ?_)
   exact Z0
  have g2:decide (pf≤w)=true:=dtq p2
  have g3:decide (pf ≥ 1∧pf≤w∧v &&& tt w pf=v)=decide (v &&& tt w pf=v):=by rw [decide_eq_decide];exact ⟨fun h=>h.2.2,fun h=>⟨p1,p2,h⟩⟩
  rw [g3]
  refine ACalls.fW au (tCq d9 (tCq cH (tCq fL (tCq dK (tCq cI tNq))))) Tryz.func72 [.tmp 6] (nrq _) (T:=aq [(5,[[],[],[],[],[],[],[],[],[],[],[],[],[],[],[],[1,5,14],[1,5,11,14,15]]),(7,[[],[],[],[],[],[],[],[],[],[1,6,8]]),(9,[[],[],[],[],[],[],[],[],[1]])]) (h:=fun hcl hlt=>?_)
  clear hlt
  simp only [go_sem,ky,eA,i2,i3,i4,i5,iNq,cu,d1,d2,d3,beq_self_eq_true,g1,g2,oA,kz,p2V,vv,cN,cM,Bool.bne_false,gE,fo]
  (repeat with_reducible refine Yq ?_)
  exact Z0
 rw [if_neg k2]
 have n2:(k==2)=false:=by simpa using k2
 by_cases k3:k=3
 ·subst k3
  rw [if_pos rfl]
  have c2:((3:Int)==2)=false:=rfl
  by_cases p1:mk=0
  ·rw [dfq (fun h=>h.1 p1)]
   have g1:decide (mk=0)=true:=dtq p1
   refine ACalls.fW au (tCq d9 (tCq cH (tCq fL (tCq dK (tCq cI tNq))))) Tryz.func72 [.tmp 6] (nrq _) (T:=aq [(5,[[],[],[],[],[],[],[],[],[],[],[],[],[],[],[],[1,5,14],[1,5,11,14,15]]),(7,[[],[],[],[],[],[],[],[],[],[1,6,8]]),(9,[[],[],[],[],[],[],[],[],[1]])]) (h:=fun hcl hlt=>?_)
   clear hlt
   simp only [go_sem,ky,eA,i2,i3,i4,i5,i6,iNq,cu,d1,d2,d3,beq_self_eq_true,cN,cM,Bool.bne_false,z2,z3,bt1,bf1,kz,gT,eS,p2V,vv,gE,fo,ls,c2,g1]
   (repeat with_reducible refine Yq ?_)
   exact Z0
  have g1:decide (mk=0)=false:=dfq p1
  have g3:decide (mk≠0∧v &&& mk=v)=decide (v &&& mk=v):=by rw [decide_eq_decide];exact ⟨fun h=>h.2,fun h=>⟨p1,h⟩⟩
  rw [g3]
  refine ACalls.fW au (tCq d9 (tCq cH (tCq fL (tCq dK (tCq cI tNq))))) Tryz.func72 [.tmp 6] (nrq _) (T:=aq [(5,[[],[],[],[],[],[],[],[],[],[],[],[],[],[],[],[1,5,14],[1,5,11,14,15]]),(7,[[],[],[],[],[],[],[],[],[],[1,6,8]]),(9,[[],[],[],[],[],[],[],[],[1]])]) (h:=fun hcl hlt=>?_)
  clear hlt
  simp only [go_sem,ky,eA,i2,i3,i4,i5,i6,iNq,cu,d1,d2,d3,beq_self_eq_true,cN,cM,Bool.bne_false,z2,z3,bt1,bf1,kz,gT,eS,p2V,vv,gE,fo,ls,c2,g1]
  (repeat with_reducible refine Yq ?_)
  exact Z0
 rw [if_neg k3]
 have n3:(k==3)=false:=by simpa using k3
 by_cases k4:k=4
 ·subst k4
  rw [if_pos rfl]
  have c2:((4:Int)==2)=false:=rfl
  have c3:((4:Int)==3)=false:=rfl
  by_cases p1:v=0
  ·have g1:decide (v=0)=true:=dtq p1
   have g3:decide (v≤hi∧¬ (v=0∧hi=jh w))=(decide (v≤hi)&&!decide (hi=jh w)):=by
    rw [Bool.eq_iff_iff];simp [p1]
   rw [g3]
   cases q:decide (v≤hi)
   ·rw [Bool.false_and]
    refine ACalls.fW au (tCq d9 (tCq cH (tCq fL (tCq dK (tCq cI tNq))))) Tryz.func72 [.tmp 6] (nrq _) (T:=aq [(5,[[],[],[],[],[],[],[],[],[],[],[],[],[],[],[],[1,5,14],[1,5,11,14,15]]),(7,[[],[],[],[],[],[],[],[],[],[1,6,8]]),(9,[[],[],[],[],[],[],[],[],[1]])]) (h:=fun hcl hlt=>?_)
    clear hlt
    simp only [go_sem,ky,eA,i2,i3,i4,i5,i6,iNq,cu,d1,d2,d3,beq_self_eq_true,cN,cM,Bool.bne_false,z2,z3,bt1,bf1,kz,gT,eS,p2V,vv,gE,fo,ls,c2,c3,g1,q]
    (repeat with_reducible refine Yq ?_)
    exact Z0
   ·rw [Bool.true_and]
    refine ACalls.fW au (tCq d9 (tCq cH (tCq fL (tCq dK (tCq cI tNq))))) Tryz.func72 [.tmp 6] (nrq _) (T:=aq [(5,[[],[],[],[],[],[],[],[],[],[],[],[],[],[],[],[1,5,14],[1,5,11,14,15]]),(7,[[],[],[],[],[],[],[],[],[],[1,6,8]]),(9,[[],[],[],[],[],[],[],[],[1]])]) (h:=fun hcl hlt=>?_)
    clear hlt
    simp only [go_sem,ky,eA,i2,i3,i4,i5,i6,iNq,cu,d1,d2,d3,beq_self_eq_true,cN,cM,Bool.bne_false,z2,z3,bt1,bf1,kz,gT,eS,p2V,vv,gE,fo,ls,c2,c3,g1,q]
    (repeat with_reducible refine Yq ?_)
    exact Z0
  ·have g1:decide (v=0)=false:=dfq p1
   have g3:decide (v≤hi∧¬ (v=0∧hi=jh w))=decide (v≤hi):=by
    rw [decide_eq_decide];exact ⟨fun h=>h.1,fun h=>⟨h,fun g=>p1 g.1⟩⟩
   rw [g3]
   cases q:decide (v≤hi)
   ·skip
    refine ACalls.fW au (tCq d9 (tCq cH (tCq fL (tCq dK (tCq cI tNq))))) Tryz.func72 [.tmp 6] (nrq _) (T:=aq [(5,[[],[],[],[],[],[],[],[],[],[],[],[],[],[],[],[1,5,14],[1,5,11,14,15]]),(7,[[],[],[],[],[],[],[],[],[],[1,6,8]]),(9,[[],[],[],[],[],[],[],[],[1]])]) (h:=fun hcl hlt=>?_)
    clear hlt
    simp only [go_sem,ky,eA,i2,i3,i4,i5,i6,iNq,cu,d1,d2,d3,beq_self_eq_true,cN,cM,Bool.bne_false,z2,z3,bt1,bf1,kz,gT,eS,p2V,vv,gE,fo,ls,c2,c3,g1,q]
    (repeat with_reducible refine Yq ?_)
    exact Z0
   ·skip
    refine ACalls.fW au (tCq d9 (tCq cH (tCq fL (tCq dK (tCq cI tNq))))) Tryz.func72 [.tmp 6] (nrq _) (T:=aq [(5,[[],[],[],[],[],[],[],[],[],[],[],[],[],[],[],[1,5,14],[1,5,11,14,15]]),(7,[[],[],[],[],[],[],[],[],[],[1,6,8]]),(9,[[],[],[],[],[],[],[],[],[1]])]) (h:=fun hcl hlt=>?_)
    clear hlt
    simp only [go_sem,ky,eA,i2,i3,i4,i5,i6,iNq,cu,d1,d2,d3,beq_self_eq_true,cN,cM,Bool.bne_false,z2,z3,bt1,bf1,kz,gT,eS,p2V,vv,gE,fo,ls,c2,c3,g1,q]
    (repeat with_reducible refine Yq ?_)
    exact Z0
 rw [if_neg k4]
 have n4:(k==4)=false:=by simpa using k4
 refine ACalls.fW au (tCq d9 (tCq cH (tCq fL (tCq dK (tCq cI tNq))))) Tryz.func72 [.tmp 6] (nrq _) (T:=aq [(5,[[],[],[],[],[],[],[],[],[],[],[],[],[],[],[],[1,5,14],[1,5,11,14,15]]),(7,[[],[],[],[],[],[],[],[],[],[1,6,8]]),(9,[[],[],[],[],[],[],[],[],[1]])]) (h:=fun hcl hlt=>?_)
 clear hlt
 simp only [go_sem,ky,eA,i2,i3,i4,i5,i6,iNq,cu,d1,d2,d3,beq_self_eq_true,cN,cM,Bool.bne_false,z2,z3,bt1,bf1,kz,gT,eS,p2V,vv,gE,fo,ls,n2,n3,n4]
 (repeat with_reducible refine Yq ?_)
 exact Z0
def si (t:STable):Bool:=decide (0≤ixP (fun k:SKey=>k.kind==3||k.kind==4) t.keys 0)
def zO:List AV→AHeap→(AV→Prop)→Prop
 |[.slice _ 3 l,.func (.func 109) [] []],_,K=>∃ ts:List SKey,(l=ts.map bU∧ts.length≤1000000)∧K (.bool (decide (0≤ixP (fun k:SKey=>k.kind==3||k.kind==4) ts 0)))
 |_,_,_=>False
theorem Im:EntOk Tryz.prog 108 (Ent.pure zO):=by
 refine Ype fun _ H K h=>?_
 unfold zO at h
 split at h
 rotate_left
 ·exact h.elim
 rename_i m l
 obtain ⟨ts,⟨rfl,hl⟩,hK⟩:=h
 refine ⟨_,hK,?_⟩
 clear hK
 refine ACalls.fW au (tCq I8 tNq) Tryz.func108 [.tmp 4] (nrq _) (T:=aq []) (h:=fun hcl hlt=>?_)
 clear hlt
 simp only [go_sem,zT]
 refine ⟨ts,⟨rfl,hl⟩,?_⟩
 try simp only [aH,go_sem]
 exact Z0
def qh:List AV→AHeap→(AV→Prop)→Prop
 |[.agg l],_,K=>∃ t:STable,(.agg l=ba t∧t.keys.length≤1000000)∧K (.bool (si t))
 |_,_,_=>False
theorem oG:EntOk Tryz.prog 74 (Ent.pure qh):=by
 refine Ype fun _ H K h=>?_
 unfold qh at h
 split at h
 rotate_left
 ·exact h.elim
 rename_i l
 obtain ⟨t,⟨e,hl⟩,hK⟩:=h
 refine ⟨_,hK,?_⟩
 clear hK
 rw [e]
 unfold ba si
 refine ACalls.fW au (tCq Im tNq) Tryz.func74 [.tmp 2] (nrq _) (T:=aq []) (h:=fun hcl hlt=>?_)
 clear hlt
 simp only [go_sem,zO]
 (repeat with_reducible refine Yq ?_)
 refine ⟨t.keys,⟨rfl,hl⟩,?_⟩
 try simp only [aH,go_sem]
 exact Z0
def eB (S:Sch):List SMatch→List SKey→Int
 |m::ms,k::ks=>if sB m k.kind=false then 13 else if (m.present&&!pH m k.kind (cO S k.field))=true then 5 else eB S ms ks
 |_,_=>0
def EU (t:STable) (p:Int):Int:=if si t=true then (if p<1∨p > 65535 then 14 else 0) else (if p<0∨p > 0 then 14 else 0)
def gH (S:Sch) (e:SEntry):Int:=match jT S e.table with
 |none=>6
 |some t=>if e.ms.length=t.keys.length then (if eB S e.ms t.keys=0 then EU t e.prio else eB S e.ms t.keys) else 13
def mO:List AV→AHeap→(AV→Prop)→Prop
 |[.agg l,.agg le],_,K=>∃ (S:Sch) (e:SEntry),(l=aW S∧le=aK e∧S.tables.length≤1000000∧S.fields.length≤1000000∧(∀ t∈S.tables,t.keys.length≤1000000)∧EOk e)∧K (.int .i64 (gH S e))
 |_,_,_=>False
theorem wS:EntOk Tryz.prog 41 (Ent.pure mO):=by
 refine Ype fun _ H K h=>?_
 unfold mO at h
 split at h
 rotate_left
 ·exact h.elim
 rename_i l le
 obtain ⟨S,e,⟨rfl,rfl,h1,h2,h3,h4,h5,h6⟩,hK⟩:=h
 refine ⟨_,hK,?_⟩
 clear hK
 generalize hR:gH S e=R
 unfold gH at hR
 have htm:∀ t,jT S e.table=some t→t∈S.tables:=fun t ht=>List.mem_of_find?_eq_some ht
 cases ht:jT S e.table with
 |none =>
  rw [ht] at hR
  subst hR
  refine ACalls.fW au (tCq nE (tCq oR (tCq ol (tCq oh (tCq oG tNq))))) Tryz.func41 [.tmp 4] (nrq _) (T:=aq [(9,[[],[],[],[],[],[],[],[0,2,6]]),(11,[[],[],[],[],[],[],[],[],[],[],[],[],[],[],[],[],[1,10,12,15],[1,3,5,9,10,12,15,16]])]) (h:=fun hcl hlt=>?_)
  clear hlt
  simp only [go_sem,aW,aK,k9]
  (repeat with_reducible refine Yq ?_)
  refine ⟨S,⟨rfl,h1⟩,?_⟩
  rw [ht]
  try simp only [aH,go_sem,ba,pE,yaf,inL]
  exact Z0
 |some t =>
  rw [ht] at hR
  dsimp only at hR
  have hkl:=h3 t (htm t ht)
  by_cases hlen:e.ms.length=t.keys.length
  rotate_left
  ·rw [if_neg hlen] at hR
   subst hR
   have d1:((e.ms.length:Int) != (t.keys.length:Int))=true:=by simp;omega
   refine ACalls.fW au (tCq nE (tCq oR (tCq ol (tCq oh (tCq oG tNq))))) Tryz.func41 [.tmp 4] (nrq _) (T:=aq [(9,[[],[],[],[],[],[],[],[0,2,6]]),(11,[[],[],[],[],[],[],[],[],[],[],[],[],[],[],[],[],[1,10,12,15],[1,3,5,9,10,12,15,16]])]) (h:=fun hcl hlt=>?_)
   clear hlt
   simp only [go_sem,aW,aK,k9]
   (repeat with_reducible refine Yq ?_)
   refine ⟨S,⟨rfl,h1⟩,?_⟩
   rw [ht]
   try simp only [aH,go_sem,ba,ybb,d1]
   exact Z0
  rw [if_pos hlen] at hR
  have d1:((e.ms.length:Int) != (t.keys.length:Int))=false:=by simp;omega
  obtain ⟨tc,htc⟩:∃ tc,tc=[AV.int .i64 t.id,.str t.name,.slice .any 3 (t.keys.map bU),.slice .any 1 (inL t.actions),.int .i64 t.dflt,.slice .any 2 (t.dargs.map vv),.int .i64 t.size,.str t.restr]:=⟨_,rfl⟩
  refine ACalls.fW au (tCq nE (tCq oR (tCq ol (tCq oh (tCq oG tNq))))) Tryz.func41 [.tmp 4] (nrq _) (T:=aq [(9,[[],[],[],[],[],[],[],[0,2,6]]),(11,[[],[],[],[],[],[],[],[],[],[],[],[],[],[],[],[],[1,10,12,15],[1,3,5,9,10,12,15,16]])]) (h:=fun hcl hlt=>?_)
  clear hlt
  simp only [go_sem,aW,aK,k9]
  (repeat with_reducible refine Yq ?_)
  refine ⟨S,⟨rfl,h1⟩,?_⟩
  rw [ht]
  simp only [aH,go_sem,ba,ybb,d1]
  obtain ⟨HB,hHB⟩:∃ HB,((H.push (.cells (aW S))).push (.cells (aK e))).push (.cells tc)=HB:=⟨_,rfl⟩
  have hclB:HB.Closed:=by
   rw [← hHB,htc]
   exact aa (aa (aa hcl (ltL_iff.2 fun j hj=>AV.lt_cells (qH S) j hj)) (ltL_iff.2 fun j hj=>AV.lt_cells (li e) j hj)) (ltL_iff.2 fun j hj=>AV.lt_cells (cS t) j hj)
  have hnB:HB.nx=H.nx+1+1+1:=by rw [← hHB];rfl
  refine az (A:=Nat) (fun k=>[(2,.ptr H.nx 0),(3,.ptr (H.nx+1) 0),(5,.ptr (H.nx+1+1) 0),(27,.slice .any 8 (e.ms.map aI)),(28,.int .i64 (e.ms.length:Int)),(29,.int .i64 (k:Int))]) (fun _=>HB) (fun k=>k≤e.ms.length∧(if eB S (e.ms.drop k) (t.keys.drop k)=0 then EU t e.prio else eB S (e.ms.drop k) (t.keys.drop k))=R) (fun k=>e.ms.length - k) 0 ⟨by omega,hR⟩ ?_ fun k hk=>?_
  ·refine ⟨by simp only [hnB,zkq,zkv];omega,by rw [← hHB,htc];exact lRq _,hclB,?_,?_⟩
   ·simp [ltF,hnB,znn,znf,a8 dO]
    omega
   ·simp [aJ,wk2,wk1,wkM,Fr.get]
  clear hR
  obtain ⟨hk,hR⟩:=hk
  simp only [go_sem]
  refine ai (fun hc=>?_) (fun hc=>?_)
  ·have hk':k<e.ms.length:=by simp at hc;omega
   have hk2:k<t.keys.length:=by omega
   obtain ⟨x,hx⟩:∃ x,x=t.keys[k]:=⟨_,rfl⟩
   obtain ⟨m,hm⟩:∃ m,m=e.ms[k]:=⟨_,rfl⟩
   have hd:t.keys.drop k=x::t.keys.drop (k+1):=by rw [hx];exact dcq hk2
   have hd2:e.ms.drop k=m::e.ms.drop (k+1):=by rw [hm];exact dcq hk'
   have hkg:=aU (f:=bU) (l:=t.keys) (k:=k) (x:=x) (by rw [gQq hk2,hx])
   have hmg:=aU (f:=aI) (l:=e.ms) (k:=k) (x:=m) (by rw [gQq hk',hm])
   have hmo:=h6 m (by rw [hm];exact gMq hk')
   have e5:=Yk5 k
   rw [hd,hd2] at hR
   rw [← hHB,htc]
   simp only [go_sem,aW,aK,iNq,ybb,hkg,bU,hmg,aI,vc,bq,yal,yak,qN]
   (repeat with_reducible refine Yq ?_)
   refine ⟨m,rfl,?_⟩
   cases hf:sB m x.kind
   ·have hck:eB S (m::e.ms.drop (k+1)) (x::t.keys.drop (k+1))=13:=by unfold eB;rw [if_pos hf]
    rw [hck,if_neg (by decide)] at hR
    subst hR
    simp only [aH,go_sem,Bool.not_false]
    (repeat with_reducible refine Yq ?_)
    simp (disch:=first|exact Zd|omega) [↓zmo,beq,ybc,ybd,ybe,ae,wk,wk2,wk1,wkM,wkL,ah,ybf,hcl]
    first|done|repeat first|exact .refl _|refine .push ?_ _
   cases hp:m.present
   ·have hck:eB S (m::e.ms.drop (k+1)) (x::t.keys.drop (k+1))=eB S (e.ms.drop (k+1)) (t.keys.drop (k+1)):=by
     rw [eB,if_neg (by rw [hf];decide),hp,Bool.false_and,if_neg (by decide)]
    rw [hck] at hR
    simp only [aH,go_sem,Bool.not_true,Bool.not_false,aW,aK,iNq,ybb,hkg,bU,hmg,aI,vc,bq,yal,yak,hp,e5]
    rw [← htc]
    refine ⟨k+1,⟨by omega,hR⟩,by omega,by simp only [zle];omega,(lRq _).push _,by rw [← hHB] at hclB;exact hclB,?_,?_⟩
    ·simp [ltF,zle,znn,znf,a8 dO]
     omega
    ·simp [aJ,wk2,wk1,wkM,Fr.get]
   have hsim:∀ q,pH m x.kind (cO S x.field)=q→eB S (m::e.ms.drop (k+1)) (x::t.keys.drop (k+1))=if q=true then eB S (e.ms.drop (k+1)) (t.keys.drop (k+1)) else 5:=fun q hq=>by
    rw [eB,if_neg (by rw [hf];decide),hp,hq,Bool.true_and]
    cases q<;>rfl
   simp only [aH,go_sem,Bool.not_true,Bool.not_false,aW,aK,iNq,ybb,hkg,bU,hmg,aI,vc,bq,yal,yak,hp,e5,nh,ny]
   (repeat with_reducible refine Yq ?_)
   refine ⟨S,⟨rfl,h2⟩,?_⟩
   try simp only [aH,go_sem,Bool.not_true,Bool.not_false,aW,aK,iNq,ybb,hkg,bU,hmg,aI,vc,bq,yal,yak,hp,e5,nh,ny]
   refine ⟨m,⟨by rw [hp],hmo⟩,?_⟩
   cases hq:pH m x.kind (cO S x.field)
   ·rw [hsim _ hq,show (if false=true then eB S (e.ms.drop (k+1)) (t.keys.drop (k+1)) else 5)=(5:Int) from rfl,if_neg (by decide)] at hR
    subst hR
    simp only [aH,go_sem,Bool.not_false]
    (repeat with_reducible refine Yq ?_)
    simp (disch:=first|exact Zd|omega) [↓zmo,beq,ybc,ybd,ybe,ae,wk,wk2,wk1,wkM,wkL,ah,ybf,hcl]
    first|done|repeat first|exact .refl _|refine .push ?_ _
   ·rw [hsim _ hq,if_pos rfl] at hR
    simp only [aH,go_sem,Bool.not_true,e5]
    (repeat with_reducible refine Yq ?_)
    rw [← htc]
    refine ⟨k+1,⟨by omega,hR⟩,by omega,by simp only [zle];omega,(lRq _).push _,by rw [← hHB] at hclB;exact hclB,?_,?_⟩
    ·simp [ltF,zle,znn,znf,a8 dO]
     omega
    ·simp [aJ,wk2,wk1,wkM,Fr.get]
  ·have hk':k=e.ms.length:=by simp at hc;omega
   subst hk'
   rw [List.drop_length] at hR
   have hck:eB S [] (t.keys.drop e.ms.length)=0:=by unfold eB;rfl
   rw [hck,if_pos rfl] at hR
   unfold EU at hR
   rw [← hHB,htc]
   simp only [go_sem,aW,aK,qh]
   refine ⟨t,⟨rfl,hkl⟩,?_⟩
   cases hrk:si t
   ·rw [hrk,if_neg (by decide)] at hR
    simp only [aH,go_sem,aK]
    by_cases p1:e.prio<0
    ·rw [if_pos (.inl p1)] at hR
     subst hR
     have d1:decide (e.prio<0)=true:=dtq p1
     try simp only [aH,go_sem,aK,d1]
     simp (disch:=first|exact Zd|omega) [↓zmo,beq,ybc,ybd,ybe,ae,wk,wk2,wk1,wkM,wkL,ah,ybf,hcl]
     first|done|repeat first|exact .refl _|refine .push ?_ _
    ·have d1:decide (e.prio<0)=false:=dfq p1
     by_cases p2:e.prio > 0
     ·rw [if_pos (.inr p2)] at hR
      subst hR
      have d2:decide (e.prio > 0)=true:=dtq p2
      try simp only [aH,go_sem,aK,d1,d2]
      simp (disch:=first|exact Zd|omega) [↓zmo,beq,ybc,ybd,ybe,ae,wk,wk2,wk1,wkM,wkL,ah,ybf,hcl]
      first|done|repeat first|exact .refl _|refine .push ?_ _
     ·rw [if_neg (by omega)] at hR
      subst hR
      have d2:decide (e.prio > 0)=false:=dfq p2
      try simp only [aH,go_sem,aK,d1,d2]
      simp (disch:=first|exact Zd|omega) [↓zmo,beq,ybc,ybd,ybe,ae,wk,wk2,wk1,wkM,wkL,ah,ybf,hcl]
      first|done|repeat first|exact .refl _|refine .push ?_ _
   ·rw [hrk,if_pos rfl] at hR
    simp only [aH,go_sem,aK]
    by_cases p1:e.prio<1
    ·rw [if_pos (.inl p1)] at hR
     subst hR
     have d1:decide (e.prio<1)=true:=dtq p1
     try simp only [aH,go_sem,aK,d1]
     simp (disch:=first|exact Zd|omega) [↓zmo,beq,ybc,ybd,ybe,ae,wk,wk2,wk1,wkM,wkL,ah,ybf,hcl]
     first|done|repeat first|exact .refl _|refine .push ?_ _
    ·have d1:decide (e.prio<1)=false:=dfq p1
     by_cases p2:e.prio > 65535
     ·rw [if_pos (.inr p2)] at hR
      subst hR
      have d2:decide (e.prio > 65535)=true:=dtq p2
      try simp only [aH,go_sem,aK,d1,d2]
      simp (disch:=first|exact Zd|omega) [↓zmo,beq,ybc,ybd,ybe,ae,wk,wk2,wk1,wkM,wkL,ah,ybf,hcl]
      first|done|repeat first|exact .refl _|refine .push ?_ _
     ·rw [if_neg (by omega)] at hR
      subst hR
      have d2:decide (e.prio > 65535)=false:=dfq p2
      try simp only [aH,go_sem,aK,d1,d2]
      simp (disch:=first|exact Zd|omega) [↓zmo,beq,ybc,ybd,ybe,ae,wk,wk2,wk1,wkM,wkL,ah,ybf,hcl]
      first|done|repeat first|exact .refl _|refine .push ?_ _
end Go.AL
