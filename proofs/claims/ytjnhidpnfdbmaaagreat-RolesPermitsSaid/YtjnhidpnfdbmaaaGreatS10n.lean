/- Lemmas of the proof; no condition. -/
import Derived.Test.YtjnhidpnfdbmaaaGreatS10j
set_option linter.all false
set_option maxRecDepth 10000
set_option maxHeartbeats 32000000
open Go Go.AL Go.Proofs
namespace Go.AL
structure MOk(m:SMatch):Prop where
 v:m.value<2^128
 k:m.mask<2^128
 h:m.high<2^128
theorem wG{a b:Int}(h:isV a b):∃ x:Nat,x<2^128∧a=((x/2^64:Nat):Int)∧b=((x%2^64:Nat):Int)∧vOf a.toNat b.toNat=x:=by
 obtain⟨h0,h1,h2,h3⟩:=h
 obtain⟨x,rfl⟩:=bv h0
 obtain⟨y,rfl⟩:=bv h2
 have hy:y<2^64:=Xa
 refine⟨vOf x y,lC Xa hy,by rw[sC hy],by rw[Be hy],by simp only[iNq]⟩
theorem gS{x y:Nat}:((((x/2^64:Nat):Int)==((y/2^64:Nat):Int))&&((((x%2^64:Nat):Int)==((y%2^64:Nat):Int))&&true))=decide (x=y):=by
 exact V149
theorem fI{x y:Nat}:((((x/2^64:Nat):Int)==((y/2^64:Nat):Int))&&(((x%2^64:Nat):Int)==((y%2^64:Nat):Int)))=decide (x=y):=by
 rw[← gS,Bool.and_true]
theorem lD{x:Nat}(h:x<2^128):isV ((x/2^64:Nat):Int) ((x%2^64:Nat):Int)=True:=eq_true (by unfold isV;omega)
theorem io{x y:Nat}:decide (we x y≤0)=decide (x≤y):=by
 unfold we
 rw[decide_eq_decide]
 split
 ·simp;omega
 ·split<;>simp<;>omega
structure EOk(e:SEntry):Prop where
 ml:e.ms.length≤140737488355328
 al:e.args.length≤140737488355328
 mo:∀ m∈e.ms,MOk m
def gY(m:SMatch)(kind:Int):SMatch:=⟨true,m.value,if kind=3 then m.mask else 0,if kind=2 then m.pfx else 0,if kind=4 then m.high else 0⟩
def kS(m:SMatch)(kind:Int):Bool:=if m.present=false then decide (m=cC)&&decide (kind≠1)else decide (m=gY m kind)
theorem iz:Tryz.prog.eqGuardType Tryz.prog.depth 47=false:=krf
theorem jx{m n:SMatch}:teq Tryz.prog 9 47 (.agg [.bool m.present,.int .u64 ((m.value/2^64:Nat):Int),.int .u64 ((m.value%2^64:Nat):Int),.int .u64 ((m.mask/2^64:Nat):Int),.int .u64 ((m.mask%2^64:Nat):Int),.int .i64 m.pfx,.int .u64 ((m.high/2^64:Nat):Int),.int .u64 ((m.high%2^64:Nat):Int)])
 (.agg [.bool n.present,.int .u64 ((n.value/2^64:Nat):Int),.int .u64 ((n.value%2^64:Nat):Int),.int .u64 ((n.mask/2^64:Nat):Int),.int .u64 ((n.mask%2^64:Nat):Int),.int .i64 n.pfx,.int .u64 ((n.high/2^64:Nat):Int),.int .u64 ((n.high%2^64:Nat):Int)])=some (decide (m=n)):=by
 have g1:Tryz.prog.stoodInHeld 47=false:=krf
 have g2:Tryz.prog.stoodInHeld 29=false:=krf
 by_cases h:m=n
 ·subst h
  simp[vu,qU,teq,teq.go,teq.part,wB,A7,yD,ceq,g1,g2,TD.agg]
 ·rw[dfq h]
  obtain⟨p,v,k,f,hh⟩:=m
  obtain⟨p',v',k',f',h'⟩:=n
  dsimp only
  generalize h1:v/2^64=a1
  generalize h2:v%2^64=a2
  generalize h3:v'/2^64=b1
  generalize h4:v'%2^64=b2
  generalize h5:k/2^64=a3
  generalize h6:k%2^64=a4
  generalize h7:k'/2^64=b3
  generalize h8:k'%2^64=b4
  generalize h9:hh/2^64=a5
  generalize h10:hh%2^64=a6
  generalize h11:h'/2^64=b5
  generalize h12:h'%2^64=b6
  simp[vu,qU,teq,teq.go,teq.part,wB,A7,yD,ceq,g1,g2,TD.agg]
  intro q1 q2 q3 q4 q5 q6 q7 q8
  apply h
  rw[q1,q6,show v=v' by omega,show k=k' by omega,show hh=h' by omega]
def gB(m:SMatch):List AV:=[.bool m.present,.int .u64 ((m.value/2^64:Nat):Int),.int .u64 ((m.value%2^64:Nat):Int),.int .u64 ((m.mask/2^64:Nat):Int),.int .u64 ((m.mask%2^64:Nat):Int),.int .i64 m.pfx,.int .u64 ((m.high/2^64:Nat):Int),.int .u64 ((m.high%2^64:Nat):Int)]
theorem rj(m:SMatch):bQ m=gB m:=rfl
def BA:PCt
 |[.agg l,.int .i64 k],_,K=>∃ m:SMatch,l=bQ m∧K (.agg (gB (gY m k)))
 |_,_,_=>False
theorem yv:EPp 102 BA:=by
 refine Ype fun _ H K h=>?_
 unfold BA at h
 split at h<;>try exact h.elim
 rename_i l k
 obtain⟨m,rfl,hK⟩:=h
 refine⟨_,hK,?_⟩
 clear hK
 rw[rj]
 unfold gY gB
 by_cases k2:k=2
 ·subst k2
  have c3:((2:Int)=3)=False:=eq_false Xc
  have c4:((2:Int)=4)=False:=eq_false Xc
  simp only[c3,c4,if_true,if_false]
  refine Yfu az tNq Tryz.func102 [.cell 4 47] fun hcl=>?_
  simp only[go_sem,beq_self_eq_true]
  exact Z0
 by_cases k3:k=3
 ·subst k3
  have c2:((3:Int)==2)=false:=rfl
  have c2':((3:Int)=2)=False:=eq_false Xc
  have c4:((3:Int)=4)=False:=eq_false Xc
  simp only[c2',c4,if_true,if_false]
  refine Yfu az tNq Tryz.func102 [.cell 4 47] fun hcl=>?_
  simp only[go_sem,c2,beq_self_eq_true]
  exact Z0
 by_cases k4:k=4
 ·subst k4
  have c2:((4:Int)==2)=false:=rfl
  have c3:((4:Int)==3)=false:=rfl
  have c2':((4:Int)=2)=False:=eq_false Xc
  have c3':((4:Int)=3)=False:=eq_false Xc
  simp only[c2',c3',if_true,if_false]
  refine Yfu az tNq Tryz.func102 [.cell 4 47] fun hcl=>?_
  simp only[go_sem,c2,c3,beq_self_eq_true]
  exact Z0
 have b2:(k==2)=false:=by simpa using k2
 have b3:(k==3)=false:=by simpa using k3
 have b4:(k==4)=false:=by simpa using k4
 rw[if_neg k2,if_neg k3,if_neg k4]
 refine Yfu az tNq Tryz.func102 [.cell 4 47] fun hcl=>?_
 simp only[go_sem,b2,b3,b4]
 exact Z0
def vj:PCt
 |[.agg l,.int .i64 k],_,K=>∃ m:SMatch,l=bQ m∧K (.bool (kS m k))
 |_,_,_=>False
theorem sP:EPp 71 vj:=by
 refine Ype fun _ H K h=>?_
 unfold vj at h
 split at h<;>try exact h.elim
 rename_i l k
 obtain⟨m,rfl,hK⟩:=h
 refine⟨_,hK,?_⟩
 clear hK
 rw[rj]
 unfold kS
 have tz:=jx (m:=m) (n:=cC)
 have tu:=jx (m:=m) (n:=gY m k)
 change teq Tryz.prog 9 47 (.agg [.bool m.present,.int .u64 ((m.value/2^64:Nat):Int),.int .u64 ((m.value%2^64:Nat):Int),.int .u64 ((m.mask/2^64:Nat):Int),.int .u64 ((m.mask%2^64:Nat):Int),.int .i64 m.pfx,.int .u64 ((m.high/2^64:Nat):Int),.int .u64 ((m.high%2^64:Nat):Int)])
  (.agg [.bool false,.int .u64 0,.int .u64 0,.int .u64 0,.int .u64 0,.int .i64 0,.int .u64 0,.int .u64 0])=_ at tz
 have kne:(k !=1)=decide (k≠1):=by rw[Bool.eq_iff_iff];simp
 cases hp:m.present
 ·rw[if_pos rfl]
  rw[hp]at tz
  cases hz:decide (m=cC)
  ·rw[Bool.false_and]
   rw[hz]at tz
   refine Yfw az (tCq yv tNq) Tryz.func71 [.tmp 4] (nrq _) (T:=ay [(3,[[],[],[],[1]])]) (h:=fun hcl=>?_)
   simp only[go_sem,gB,hp,tz,iz,Bool.bne_false]
   refine T0 ?_
   exact Z0
  ·rw[Bool.true_and]
   rw[hz]at tz
   refine Yfw az (tCq yv tNq) Tryz.func71 [.tmp 4] (nrq _) (T:=ay [(3,[[],[],[],[1]])]) (h:=fun hcl=>?_)
   simp only[go_sem,gB,hp,tz,iz,Bool.bne_false,kne]
   refine T0 ?_
   exact Z0
 ·rw[if_neg (Xc)]
  rw[hp]at tu
  refine Yfw az (tCq yv tNq) Tryz.func71 [.tmp 4] (nrq _) (T:=ay [(3,[[],[],[],[1]])]) (h:=fun hcl=>?_)
  simp only[go_sem,gB,hp,BA]
  refine T0 ?_
  refine⟨m,by rw[rj];unfold gB;rw[hp],?_⟩
  simp only[aF,go_sem,gB,tu,iz,Bool.bne_false]
  refine T0 ?_
  exact Z0
def jl(m:SMatch)(k w:Int):Bool :=
 if((bl m.value:Nat):Int)≤w∧((bl m.mask:Nat):Int)≤w∧((bl m.high:Nat):Int)≤w then
  (if k=2 then decide (m.pfx ≥ 1∧m.pfx≤w∧m.value&&&mc w m.pfx=m.value)
  else if k=3 then decide (m.mask≠0∧m.value&&&m.mask=m.value)
  else if k=4 then decide (m.value≤m.high∧¬ (m.value=0∧m.high=fC w))
  else true)
 else false
def qJ:PCt
 |[.agg l,.int .i64 k,.int .i64 w],_,K=>∃ m:SMatch,(l=bQ m∧MOk m)∧K (.bool (jl m k w))
 |_,_,_=>False
theorem wP{x:Nat}(h:x<2^128):((((x/2^64:Nat):Int)==0)&&((((x%2^64:Nat):Int)==0)&&true))=decide (x=0):=by
 exact V149
theorem su:EPp 72 qJ:=by
 refine Ype fun _ H K h=>?_
 unfold qJ at h
 split at h<;>try exact h.elim
 rename_i l k w
 obtain⟨m,⟨rfl,hv,hk,hh⟩,hK⟩:=h
 refine⟨_,hK,?_⟩
 clear hK
 rw[rj]
 obtain⟨pr,v,mk,pf,hi⟩:=m
 dsimp only at hv hk hh
 unfold jl
 dsimp only
 have i2:=lD hv
 have i3:=lD hk
 have i4:=lD hh
 have hL:=xJ w pf
 have i5:=lD hL
 have hO:=l9 w
 have i6:=lD hO
 have z2:=wP hv
 have z3:=wP hk
 rw[Bool.and_true]at z2 z3
 have bt1:(true !=true)=false:=rfl
 have bf1:(false !=true)=true:=rfl
 by_cases b1:((bl v:Nat):Int)≤w
 rotate_left
 ·rw[if_neg (fun h=>b1 h.1)]
  have d1:decide (((bl v:Nat):Int)≤w)=false:=dfq b1
  refine Yfw az (tCq fP (tCq dH (tCq iR (tCq fF (tCq dK tNq))))) Tryz.func72 [.tmp 6] (nrq _) (T:=ay [(5,[[],[],[],[],[],[],[],[],[],[],[],[],[],[],[],[1,5,14],[1,5,11,14,15]]),(7,[[],[],[],[],[],[],[],[],[],[1,6,8]]),(9,[[],[],[],[],[],[],[],[],[1]])]) (h:=fun hcl=>?_)
  simp only[go_sem,gB,gd,i2,i3,i4,iNq,bZ,d1]
  refine T0 ?_
  exact Z0
 have d1:decide (((bl v:Nat):Int)≤w)=true:=dtq b1
 by_cases b2:((bl mk:Nat):Int)≤w
 rotate_left
 ·rw[if_neg (fun h=>b2 h.2.1)]
  have d2:decide (((bl mk:Nat):Int)≤w)=false:=dfq b2
  refine Yfw az (tCq fP (tCq dH (tCq iR (tCq fF (tCq dK tNq))))) Tryz.func72 [.tmp 6] (nrq _) (T:=ay [(5,[[],[],[],[],[],[],[],[],[],[],[],[],[],[],[],[1,5,14],[1,5,11,14,15]]),(7,[[],[],[],[],[],[],[],[],[],[1,6,8]]),(9,[[],[],[],[],[],[],[],[],[1]])]) (h:=fun hcl=>?_)
  simp only[go_sem,gB,gd,i2,i3,i4,iNq,bZ,d1,d2]
  refine T0 ?_
  exact Z0
 have d2:decide (((bl mk:Nat):Int)≤w)=true:=dtq b2
 by_cases b3:((bl hi:Nat):Int)≤w
 rotate_left
 ·rw[if_neg (fun h=>b3 h.2.2)]
  have d3:decide (((bl hi:Nat):Int)≤w)=false:=dfq b3
  refine Yfw az (tCq fP (tCq dH (tCq iR (tCq fF (tCq dK tNq))))) Tryz.func72 [.tmp 6] (nrq _) (T:=ay [(5,[[],[],[],[],[],[],[],[],[],[],[],[],[],[],[],[1,5,14],[1,5,11,14,15]]),(7,[[],[],[],[],[],[],[],[],[],[1,6,8]]),(9,[[],[],[],[],[],[],[],[],[1]])]) (h:=fun hcl=>?_)
  simp only[go_sem,gB,gd,i2,i3,i4,iNq,bZ,d1,d2,d3]
  refine T0 ?_
  exact Z0
 have d3:decide (((bl hi:Nat):Int)≤w)=true:=dtq b3
 rw[if_pos ⟨b1,b2,b3⟩]
 by_cases k2:k=2
 ·subst k2
  rw[if_pos rfl]
  by_cases p1:pf ≥ 1
  rotate_left
  ·rw[dfq (fun h=>p1 h.1)]
   have g1:decide (pf ≥ 1)=false:=dfq p1
   refine Yfw az (tCq fP (tCq dH (tCq iR (tCq fF (tCq dK tNq))))) Tryz.func72 [.tmp 6] (nrq _) (T:=ay [(5,[[],[],[],[],[],[],[],[],[],[],[],[],[],[],[],[1,5,14],[1,5,11,14,15]]),(7,[[],[],[],[],[],[],[],[],[],[1,6,8]]),(9,[[],[],[],[],[],[],[],[],[1]])]) (h:=fun hcl=>?_)
   simp only[go_sem,gB,gd,i2,i3,i4,iNq,bZ,d1,d2,d3,beq_self_eq_true,g1]
   refine T0 ?_
   exact Z0
  have g1:decide (pf ≥ 1)=true:=dtq p1
  by_cases p2:pf≤w
  rotate_left
  ·rw[dfq (fun h=>p2 h.2.1)]
   have g2:decide (pf≤w)=false:=dfq p2
   refine Yfw az (tCq fP (tCq dH (tCq iR (tCq fF (tCq dK tNq))))) Tryz.func72 [.tmp 6] (nrq _) (T:=ay [(5,[[],[],[],[],[],[],[],[],[],[],[],[],[],[],[],[1,5,14],[1,5,11,14,15]]),(7,[[],[],[],[],[],[],[],[],[],[1,6,8]]),(9,[[],[],[],[],[],[],[],[],[1]])]) (h:=fun hcl=>?_)
   simp only[go_sem,gB,gd,i2,i3,i4,iNq,bZ,d1,d2,d3,beq_self_eq_true,g1,g2]
   refine T0 ?_
   exact Z0
  have g2:decide (pf≤w)=true:=dtq p2
  have g3:decide (pf ≥ 1∧pf≤w∧v&&&mc w pf=v)=decide (v&&&mc w pf=v):=by rw[decide_eq_decide];exact⟨fun h=>h.2.2,fun h=>⟨p1,p2,h⟩⟩
  rw[g3]
  refine Yfw az (tCq fP (tCq dH (tCq iR (tCq fF (tCq dK tNq))))) Tryz.func72 [.tmp 6] (nrq _) (T:=ay [(5,[[],[],[],[],[],[],[],[],[],[],[],[],[],[],[],[1,5,14],[1,5,11,14,15]]),(7,[[],[],[],[],[],[],[],[],[],[1,6,8]]),(9,[[],[],[],[],[],[],[],[],[1]])]) (h:=fun hcl=>?_)
  simp only[go_sem,gB,gd,i2,i3,i4,i5,iNq,bZ,d1,d2,d3,beq_self_eq_true,g1,g2,sk,nn,p2V,vv,cZ,cY,Bool.bne_false,gS,fI]
  refine T0 ?_
  exact Z0
 rw[if_neg k2]
 have n2:(k==2)=false:=by simpa using k2
 by_cases k3:k=3
 ·subst k3
  rw[if_pos rfl]
  have c2:((3:Int)==2)=false:=rfl
  by_cases p1:mk=0
  ·rw[dfq (fun h=>h.1 p1)]
   have g1:decide (mk=0)=true:=dtq p1
   exact V34
  have g1:decide (mk=0)=false:=dfq p1
  have g3:decide (mk≠0∧v&&&mk=v)=decide (v&&&mk=v):=by rw[decide_eq_decide];exact⟨fun h=>h.2,fun h=>⟨p1,h⟩⟩
  rw[g3]
  exact V34
 rw[if_neg k3]
 have n3:(k==3)=false:=by simpa using k3
 by_cases k4:k=4
 ·subst k4
  rw[if_pos rfl]
  have c2:((4:Int)==2)=false:=rfl
  have c3:((4:Int)==3)=false:=rfl
  by_cases p1:v=0
  ·have g1:decide (v=0)=true:=dtq p1
   have g3:decide (v≤hi∧¬ (v=0∧hi=fC w))=(decide (v≤hi)&&!decide (hi=fC w)):=by
    rw[Bool.eq_iff_iff];simp[p1]
   rw[g3]
   cases q:decide (v≤hi)
   ·rw[Bool.false_and]
    exact V10
   ·rw[Bool.true_and]
    exact V10
  ·have g1:decide (v=0)=false:=dfq p1
   have g3:decide (v≤hi∧¬ (v=0∧hi=fC w))=decide (v≤hi):=by
    exact V173
   rw[g3]
   cases q:decide (v≤hi)
   ·skip
    exact V10
   ·skip
    exact V10
 rw[if_neg k4]
 have n4:(k==4)=false:=by simpa using k4
 refine Yfw az (tCq fP (tCq dH (tCq iR (tCq fF (tCq dK tNq))))) Tryz.func72 [.tmp 6] (nrq _) (T:=ay [(5,[[],[],[],[],[],[],[],[],[],[],[],[],[],[],[],[1,5,14],[1,5,11,14,15]]),(7,[[],[],[],[],[],[],[],[],[],[1,6,8]]),(9,[[],[],[],[],[],[],[],[],[1]])]) (h:=fun hcl=>?_)
 simp only[go_sem,gB,gd,i2,i3,i4,i5,i6,iNq,bZ,d1,d2,d3,beq_self_eq_true,cZ,cY,Bool.bne_false,z2,z3,bt1,bf1,nn,jQ,gP,p2V,vv,gS,fI,io,n2,n3,n4]
 refine T0 ?_
 exact Z0
def oX(t:STable):Bool:=decide (0≤ixP (fun k:SKey=>k.kind==3||k.kind==4) t.keys 0)
def E0:PCt
 |[.slice _ 3 l,.func (.func 109) [] []],_,K=>∃ ts:List SKey,(l=ts.map bL∧ts.length≤1000000)∧K (.bool (decide (0≤ixP (fun k:SKey=>k.kind==3||k.kind==4) ts 0)))
 |_,_,_=>False
theorem OA:EPp 108 E0:=by
 refine Ype fun _ H K h=>?_
 unfold E0 at h
 split at h<;>try exact h.elim
 rename_i m l
 obtain⟨ts,⟨rfl,hl⟩,hK⟩:=h
 refine⟨_,hK,?_⟩
 clear hK
 refine Yfu az (tCq PD tNq) Tryz.func108 [.tmp 4] fun hcl=>?_
 simp only[go_sem,ET]
 refine⟨ts,⟨rfl,hl⟩,?_⟩
 exact V46
def uE:PCt
 |[.agg l],_,K=>∃ t:STable,(.agg l=bc t∧t.keys.length≤1000000)∧K (.bool (oX t))
 |_,_,_=>False
theorem sa:EPp 74 uE:=by
 refine Ype fun _ H K h=>?_
 unfold uE at h
 split at h<;>try exact h.elim
 rename_i l
 obtain⟨t,⟨e,hl⟩,hK⟩:=h
 refine⟨_,hK,?_⟩
 clear hK
 rw[e]
 unfold bc oX
 refine Yfu az (tCq OA tNq) Tryz.func74 [.tmp 2] fun hcl=>?_
 simp only[go_sem,E0]
 refine T0 ?_
 refine⟨t.keys,⟨rfl,hl⟩,?_⟩
 exact V46
def fj(S:Sch):List SMatch→List SKey→Int
 |m::ms,k::ks=>if kS m k.kind=false then 13 else if(m.present&&!jl m k.kind (cV S k.field))=true then 5 else fj S ms ks
 |_,_=>0
def GR(t:STable)(p:Int):Int:=if oX t=true then(if p<1∨p>65535 then 14 else 0)else(if p<0∨p>0 then 14 else 0)
def dD(S:Sch)(e:SEntry):Int:=match iW S e.table with
 |none=>6
 |some t=>if e.ms.length=t.keys.length then(if fj S e.ms t.keys=0 then GR t e.prio else fj S e.ms t.keys)else 13
def qu:PCt
 |[.agg l,.agg le],_,K=>∃ (S:Sch) (e:SEntry),(l=bb S∧le=a9 e∧S.tables.length≤1000000∧S.fields.length≤1000000∧(∀ t∈S.tables,t.keys.length≤1000000)∧EOk e)∧K (.int .i64 (dD S e))
 |_,_,_=>False
theorem Bp:EPp 41 qu:=by
 refine Ype fun _ H K h=>?_
 unfold qu at h
 split at h<;>try exact h.elim
 rename_i l le
 obtain⟨S,e,⟨rfl,rfl,h1,h2,h3,h4,h5,h6⟩,hK⟩:=h
 refine⟨_,hK,?_⟩
 clear hK
 generalize hR:dD S e=R
 unfold dD at hR
 have htm:∀ t,iW S e.table=some t→t∈S.tables:=fun t ht=>List.mem_of_find?_eq_some ht
 cases ht:iW S e.table with
 |none =>
  rw[ht]at hR
  subst hR
  refine Yfw az (tCq qF (tCq sP (tCq sB (tCq su (tCq sa tNq))))) Tryz.func41 [.tmp 4] (nrq _) (T:=ay [(9,[[],[],[],[],[],[],[],[0,2,6]]),(11,[[],[],[],[],[],[],[],[],[],[],[],[],[],[],[],[],[1,10,12,15],[1,3,5,9,10,12,15,16]])]) (h:=fun hcl=>?_)
  simp only[go_sem,bb,a9,nV]
  refine T0 ?_
  refine⟨S,⟨rfl,h1⟩,?_⟩
  rw[ht]
  try simp only[aF,go_sem,bc,t6,yaf,inL]
  exact Z0
 |some t =>
  rw[ht]at hR
  dsimp only at hR
  have hkl:=h3 t (htm t ht)
  by_cases hlen:e.ms.length=t.keys.length
  rotate_left
  ·rw[if_neg hlen]at hR
   subst hR
   have d1:((e.ms.length:Int) !=(t.keys.length:Int))=true:=Xd
   refine Yfw az (tCq qF (tCq sP (tCq sB (tCq su (tCq sa tNq))))) Tryz.func41 [.tmp 4] (nrq _) (T:=ay [(9,[[],[],[],[],[],[],[],[0,2,6]]),(11,[[],[],[],[],[],[],[],[],[],[],[],[],[],[],[],[],[1,10,12,15],[1,3,5,9,10,12,15,16]])]) (h:=fun hcl=>?_)
   simp only[go_sem,bb,a9,nV]
   refine T0 ?_
   refine⟨S,⟨rfl,h1⟩,?_⟩
   rw[ht]
   try simp only[aF,go_sem,bc,ybb,d1]
   exact Z0
  rw[if_pos hlen]at hR
  have d1:((e.ms.length:Int) !=(t.keys.length:Int))=false:=Xd
  obtain⟨tc,htc⟩:∃ tc,tc=[AV.int .i64 t.id,.str t.name,.slice .any 3 (t.keys.map bL),.slice .any 1 (inL t.actions),.int .i64 t.dflt,.slice .any 2 (t.dargs.map vv),.int .i64 t.size,.str t.restr]:=⟨_,rfl⟩
  refine Yfw az (tCq qF (tCq sP (tCq sB (tCq su (tCq sa tNq))))) Tryz.func41 [.tmp 4] (nrq _) (T:=ay [(9,[[],[],[],[],[],[],[],[0,2,6]]),(11,[[],[],[],[],[],[],[],[],[],[],[],[],[],[],[],[],[1,10,12,15],[1,3,5,9,10,12,15,16]])]) (h:=fun hcl=>?_)
  simp only[go_sem,bb,a9,nV]
  refine T0 ?_
  refine⟨S,⟨rfl,h1⟩,?_⟩
  rw[ht]
  simp only[aF,go_sem,bc,ybb,d1]
  obtain⟨HB,hHB⟩:∃ HB,((H.push (.cells (bb S))).push (.cells (a9 e))).push (.cells tc)=HB:=⟨_,rfl⟩
  have hclB:HB.Closed:=by
   rw[← hHB,htc]
   exact aa (aa (aa hcl (ltL_iff.2 fun j hj=>AV.lt_cells (u7 S) j hj)) (ltL_iff.2 fun j hj=>AV.lt_cells (qq e) j hj)) (ltL_iff.2 fun j hj=>AV.lt_cells (dM t) j hj)
  have hnB:HB.nx=H.nx+1+1+1:=by rw[← hHB];rfl
  refine aA (A:=Nat) (fun k=>[(2,.ptr H.nx 0),(3,.ptr (H.nx+1) 0),(5,.ptr (H.nx+1+1) 0),(27,.slice .any 8 (e.ms.map aP)),(28,.int .i64 (e.ms.length:Int)),(29,.int .i64 (k:Int))]) (fun _=>HB) (fun k=>k≤e.ms.length∧(if fj S (e.ms.drop k) (t.keys.drop k)=0 then GR t e.prio else fj S (e.ms.drop k) (t.keys.drop k))=R) (fun k=>e.ms.length-k) 0 ⟨Xa,hR⟩ ?_ fun k hk=>?_
  ·refine⟨by simp only[hnB,zkq,zkv];omega,by rw[← hHB,htc];exact lRq _,hclB,?_,?_⟩
   ·simp[ltF,hnB,znn,znf,bk cN]
    omega
   ·exact V8
  clear hR
  obtain⟨hk,hR⟩:=hk
  refine T9 ?_
  refine aq (fun hc=>?_) (fun hc=>?_)
  ·have hk':k<e.ms.length:=sHc
   have hk2:k<t.keys.length:=Xa
   obtain⟨x,hx⟩:∃ x,x=t.keys[k]:=⟨_,rfl⟩
   obtain⟨m,hm⟩:∃ m,m=e.ms[k]:=⟨_,rfl⟩
   have hd:t.keys.drop k=x::t.keys.drop (k+1):=by rw[hx];exact dcq hk2
   have hd2:e.ms.drop k=m::e.ms.drop (k+1):=by rw[hm];exact dcq hk'
   have hkg:=bf (f:=bL) (l:=t.keys) (k:=k) (x:=x) (by rw[gQq hk2,hx])
   have hmg:=bf (f:=aP) (l:=e.ms) (k:=k) (x:=m) (by rw[gQq hk',hm])
   have hmo:=h6 m (by rw[hm];exact gMq hk')
   have e5:=Yk5 k
   rw[hd,hd2]at hR
   rw[← hHB,htc]
   simp only[go_sem,bb,a9,iNq,ybb,hkg,bL,hmg,aP,vc,bQ,yal,yak,vj]
   refine T0 ?_
   refine⟨m,rfl,?_⟩
   cases hf:kS m x.kind
   ·have hck:fj S (m::e.ms.drop (k+1)) (x::t.keys.drop (k+1))=13:=by unfold fj;rw[if_pos hf]
    rw[hck,if_neg (Xc)]at hR
    subst hR
    simp only[aF,go_sem,Bool.not_false]
    refine T0 ?_
    exact V3
   cases hp:m.present
   ·have hck:fj S (m::e.ms.drop (k+1)) (x::t.keys.drop (k+1))=fj S (e.ms.drop (k+1)) (t.keys.drop (k+1)):=by
     rw[fj,if_neg (by rw[hf];decide),hp,Bool.false_and,if_neg (Xc)]
    rw[hck]at hR
    simp only[aF,go_sem,Bool.not_true,Bool.not_false,bb,a9,iNq,ybb,hkg,bL,hmg,aP,vc,bQ,yal,yak,hp,e5]
    rw[← htc]
    refine⟨k+1,⟨Xa,hR⟩,Xa,Xg,(lRq _).push _,by rw[← hHB]at hclB;exact hclB,?_,?_⟩
    ·simp[ltF,zle,znn,znf,bk cN]
     omega
    ·exact V8
   have hsim:∀ q,jl m x.kind (cV S x.field)=q→fj S (m::e.ms.drop (k+1)) (x::t.keys.drop (k+1))=if q=true then fj S (e.ms.drop (k+1)) (t.keys.drop (k+1))else 5:=fun q hq=>by
    rw[fj,if_neg (by rw[hf];decide),hp,hq,Bool.true_and]
    cases q<;>rfl
   simp only[aF,go_sem,Bool.not_true,Bool.not_false,bb,a9,iNq,ybb,hkg,bL,hmg,aP,vc,bQ,yal,yak,hp,e5,qT,qJ]
   refine T0 ?_
   refine⟨S,⟨rfl,h2⟩,?_⟩
   try simp only[aF,go_sem,Bool.not_true,Bool.not_false,bb,a9,iNq,ybb,hkg,bL,hmg,aP,vc,bQ,yal,yak,hp,e5,qT,qJ]
   refine⟨m,⟨by rw[hp],hmo⟩,?_⟩
   cases hq:jl m x.kind (cV S x.field)
   ·rw[hsim _ hq,show(if false=true then fj S (e.ms.drop (k+1)) (t.keys.drop (k+1))else 5)=(5:Int) from rfl,if_neg (Xc)]at hR
    subst hR
    simp only[aF,go_sem,Bool.not_false]
    refine T0 ?_
    exact V3
   ·rw[hsim _ hq,if_pos rfl]at hR
    simp only[aF,go_sem,Bool.not_true,e5]
    refine T0 ?_
    rw[← htc]
    refine⟨k+1,⟨Xa,hR⟩,Xa,Xg,(lRq _).push _,by rw[← hHB]at hclB;exact hclB,?_,?_⟩
    ·simp[ltF,zle,znn,znf,bk cN]
     omega
    ·exact V8
  ·have hk':k=e.ms.length:=sHc
   subst hk'
   rw[List.drop_length]at hR
   have hck:fj S [] (t.keys.drop e.ms.length)=0:=by unfold fj;rfl
   rw[hck,if_pos rfl]at hR
   unfold GR at hR
   rw[← hHB,htc]
   simp only[go_sem,bb,a9,uE]
   refine⟨t,⟨rfl,hkl⟩,?_⟩
   cases hrk:oX t
   ·rw[hrk,if_neg (Xc)]at hR
    simp only[aF,go_sem,a9]
    by_cases p1:e.prio<0
    ·rw[if_pos (.inl p1)]at hR
     subst hR
     have d1:decide (e.prio<0)=true:=dtq p1
     try simp only[aF,go_sem,a9,d1]
     exact V3
    ·have d1:decide (e.prio<0)=false:=dfq p1
     by_cases p2:e.prio>0
     ·rw[if_pos (.inr p2)]at hR
      subst hR
      have d2:decide (e.prio>0)=true:=dtq p2
      try simp only[aF,go_sem,a9,d1,d2]
      exact V3
     ·rw[if_neg (Xa)]at hR
      subst hR
      have d2:decide (e.prio>0)=false:=dfq p2
      try simp only[aF,go_sem,a9,d1,d2]
      exact V3
   ·rw[hrk,if_pos rfl]at hR
    simp only[aF,go_sem,a9]
    by_cases p1:e.prio<1
    ·rw[if_pos (.inl p1)]at hR
     subst hR
     have d1:decide (e.prio<1)=true:=dtq p1
     try simp only[aF,go_sem,a9,d1]
     exact V3
    ·have d1:decide (e.prio<1)=false:=dfq p1
     by_cases p2:e.prio>65535
     ·rw[if_pos (.inr p2)]at hR
      subst hR
      have d2:decide (e.prio>65535)=true:=dtq p2
      try simp only[aF,go_sem,a9,d1,d2]
      exact V3
     ·rw[if_neg (Xa)]at hR
      subst hR
      have d2:decide (e.prio>65535)=false:=dfq p2
      try simp only[aF,go_sem,a9,d1,d2]
      exact V3
end Go.AL
