/- Lemmas of the proof; no condition. -/
import Derived.Test.YtjnhidpnfdbmaaaGreatS12b
import Derived.Test.YtjnhidpnfdbmaaaGreatS11g
import Derived.Test.YtjnhidpnfdbmaaaGreatS12g
set_option linter.all false
set_option maxRecDepth 10000
set_option maxHeartbeats 32000000
open Go Go.AL Go.Proofs
namespace Go.AL
def w5:PCt
 |[.slice _ 1 l,.int .i64 n],_,K=>∃ xs:List Int,(l=inL xs∧xs.length≤1000000)∧K (.int .i64 (ixP (fun x=>x==n) xs 0))
 |_,_,_=>False
theorem IL:EPp 75 w5:=by
 refine Ype fun _ H K h=>?_
 unfold w5 at h
 split at h<;>try exact h.elim
 rename_i m l n
 obtain⟨xs,⟨rfl,hl⟩,hK⟩:=h
 refine⟨_,hK,?_⟩
 clear hK
 generalize hR:ixP (fun x:Int=>x==n) xs 0=R
 refine Yfv az tNq Tryz.func75 [.tmp 4] fun hcl hlt=>?_
 have hm:AV.lt H.nx (.slice m 1 (inL xs)):=hlt _ Xb
 clear hlt
 simp only[go_sem,Bs]
 refine aA (A:=Nat) (fun k=>[(0,.slice m 1 (inL xs)),(1,.int .i64 n),(7,.int .i64 (xs.length:Int)),(8,.int .i64 (k:Int))]) (fun _=>H) (fun k=>k≤xs.length∧ixP (fun x:Int=>x==n) (xs.drop k) k=R) (fun k=>xs.length-k) 0 ⟨Xa,hR⟩ ?_ fun k hk=>?_
 ·refine⟨nrq _,lRq _,hcl,?_,?_⟩
  ·simp[ltF,znf,hm]
  ·exact V8
 clear hR
 obtain⟨hk,hR⟩:=hk
 refine T9 ?_
 refine aq (fun hc=>?_) (fun hc=>?_)
 ·have hk':k<xs.length:=sHc
  obtain⟨x,hx⟩:∃ x,x=xs[k]:=⟨_,rfl⟩
  have hd:xs.drop k=x::xs.drop (k+1):=by rw[hx];exact dcq hk'
  have hg:=bf (f:=AV.int .i64) (l:=xs) (k:=k) (x:=x) (by rw[gQq hk',hx])
  have e5:=Yk5 k
  rw[hd]at hR
  unfold ixP at hR
  simp only[go_sem,iNq,inL,hg,ybb]
  refine T0 ?_
  rw[show(n==x)=(x==n) from BEq.comm]
  refine aq (fun hq=>?_) (fun hq=>?_)
  ·rw[if_pos hq]at hR
   subst hR
   exact V33
  ·rw[if_neg (by rw[hq];decide)]at hR
   refine T37 ?_
   unfold inL at hm
   refine⟨k+1,⟨Xa,hR⟩,Xa,nrq _,lRq _,hcl,?_,?_⟩
   ·simp[ltF,znf,hm]
   ·exact V8
 ·have hk':k=xs.length:=sHc
  exact V22
def xI:PCt
 |[.slice _ 1 l,.int .i64 n],_,K=>∃ xs:List Int,(l=inL xs∧xs.length≤1000000)∧K (.bool (xs.contains n))
 |_,_,_=>False
theorem NS{xs:List Int}{n:Int}:decide (ixP (fun x=>x==n) xs 0 ≥ 0)=xs.contains n:=by
 have key:∀(xs:List Int)(k:Nat),decide (0≤ixP (fun x=>x==n) xs k)=xs.contains n:=by
  intro xs
  induction xs with
  |nil=>intro k;rfl
  |cons x xs ih =>
   intro k
   unfold ixP
   rw[List.contains_cons]
   by_cases h:x=n
   ·subst h;simp
   ·rw[if_neg (by simp[h]),ih]
    have:(n==x)=false:=beq_eq_false_iff_ne.2 (Ne.symm h)
    rw[this,Bool.false_or]
 exact key xs 0
theorem B8:EPp 43 xI:=by
 refine Ype fun _ H K h=>?_
 unfold xI at h
 split at h<;>try exact h.elim
 rename_i m l n
 obtain⟨xs,⟨rfl,hl⟩,hK⟩:=h
 refine⟨_,hK,?_⟩
 clear hK
 generalize hR:xs.contains n=R
 rw[← NS]at hR
 refine Yfu az (tCq IL tNq) Tryz.func43 [.tmp 4] fun hcl=>?_
 simp only[go_sem,w5]
 refine⟨xs,⟨rfl,hl⟩,?_⟩
 have hR':decide (0≤ixP (fun x=>x==n) xs 0)=R:=hR
 simp only[aF,go_sem,hR']
 exact Z0
def BL:PCt
 |[.agg [.int .u64 a,.int .u64 b],.int .i64 n],_,K=>isV a b∧K (.bool (decide (((bl (vOf a.toNat b.toNat):Nat):Int)≤n)))
 |_,_,_=>False
theorem K4:EPp 130 BL:=by
 refine Ype fun _ H K h=>?_
 unfold BL at h
 split at h<;>try exact h.elim
 rename_i a b n
 obtain⟨hv,hK⟩:=h
 refine⟨_,hK,?_⟩
 clear hK
 refine Yfu az (tCq OI tNq) Tryz.func130 [.tmp 4] fun hcl=>?_
 simp only[go_sem,Fl]
 refine⟨hv,?_⟩
 exact V46
def kU:PCt
 |[.int .i64 w,.int .i64 n],_,K=>K (vv (mc w n))
 |_,_,_=>False
theorem fM:EPp 127 kU:=by
 refine Ype fun _ H K h=>?_
 unfold kU at h
 split at h<;>try exact h.elim
 rename_i w n
 refine⟨_,h,?_⟩
 clear h
 refine Yfu az (tCq um (tCq zA tNq)) Tryz.func127 [.cell 4 29] fun hcl=>?_
 have hs:=xJ w n
 have b3:=iA hs
 have u3:=dJ hs
 have hcn:=kH w
 obtain⟨c,hc0⟩:∃ c,cr w=c:=⟨_,rfl⟩
 rw[hc0]at hcn
 obtain⟨s,hs1,hs2⟩:∃ s:Nat,IntKind.i64.wrap ((c:Int)-max 0 (min n (c:Int)))=(s:Int)∧(s:Int)=(c:Int)-max 0 (min n (c:Int)):=⟨((c:Int)-max 0 (min n (c:Int))).toNat,Xe,Xa⟩
 simp only[go_sem,tJ,hc0,hs1]
 refine eZ (A:=Nat) (fun i=>[(6,.int .i64 (i:Int)),(5,.ptr (H.nx+1) 0),(4,.ptr H.nx 0),(0,.int .i64 (c:Int))])
  (fun i=>(H.push (.cells [.int .u64 0,.int .u64 0])).push (.cells (bfn fun j=>decide (s≤j∧j<i)))) (fun i=>s≤i∧i≤c) (fun i=>c-i) s Xa ?_ fun i hi=>?_
 ·have e:(bfn fun j=>decide (s≤j∧j<s))=List.replicate 128 (.bool false):=by rw[GC];exact nu fun j _=>by simp
  exact V65
 refine T9 ?_
 refine aq (fun hc=>?_) (fun hc=>?_)
 ·have hi1:i<c:=sHc
  have e0:IntKind.i64.wrap ((i:Int)+1)=((i+1:Nat):Int):=Xe
  have st:(bfn fun j=>decide (s≤j∧j<i)).set i (.bool true)=bfn fun j=>decide (s≤j∧j<i+1):=AX fun j hj=>by
   by_cases e:j=i
   ·subst e;simp;omega
   ·rw[if_neg e,decide_eq_decide];omega
  exact V98
 ·have hi1:i=c:=sHc
  subst hi1
  have e:(bfn fun j=>decide (s≤j∧j<i))=bits (mc w n):=CQ fun j _=>by
   rw[Jd,hc0,decide_eq_decide];omega
  have et:List.take 128 (bits (mc w n))=bits (mc w n):=ybc (by rw[bJ];omega)
  exact V95
def eL:=p2V fun x y=>.bool (decide (x&&&y=x))
theorem dZ:EPp 126 eL:=by
 unfold eL
 refine Ype fun _ H K h=>?_
 unfold p2V at h
 split at h<;>try exact h.elim
 rename_i a b c d
 obtain⟨⟨i1,i2⟩,hK⟩:=h
 refine⟨_,hK,?_⟩
 clear hK
 obtain⟨x,hx,rfl,rfl,e⟩:=wG i1
 obtain⟨y,hy,rfl,rfl,e2⟩:=wG i2
 rw[e,e2]
 clear e e2
 refine Yfw az (tCq Ox tNq) Tryz.func126 [.tmp 4] (nrq _) (T:=ay [(1,[[],[],[0,1]])]) (h:=fun hcl=>?_)
 simp only[go_sem,Ch,p2V,vv,iNq,bZ,cZ,cY,Bool.bne_false,gS,fI]
 refine⟨⟨i1,i2⟩,?_⟩
 try simp only[aF,go_sem,Ch,p2V,vv,iNq,bZ,cZ,cY,Bool.bne_false,gS,fI]
 exact Z0
def A8:PCt
 |[.agg l,.int .i64 k],_,K=>∃ m:SMatch,l=bQ m∧K (.int .i64 (if kS m k=true then 0 else 13))
 |_,_,_=>False
theorem Ks:EPp 84 A8:=by
 refine Ype fun _ H K h=>?_
 unfold A8 at h
 split at h<;>try exact h.elim
 rename_i l k
 obtain⟨m,rfl,hK⟩:=h
 refine⟨_,hK,?_⟩
 clear hK
 generalize hR:(if kS m k=true then(0:Int)else 13)=R
 rw[rj]
 have bt1:(true !=true)=false:=rfl
 have bf1:(false !=true)=true:=rfl
 cases hp:m.present with
 |false=>
  unfold kS at hR
  rw[if_pos hp]at hR
  have hT:teq Tryz.prog 9 47 (.agg [.bool false,.int .u64 ((m.value/2^64:Nat):Int),.int .u64 ((m.value%2^64:Nat):Int),.int .u64 ((m.mask/2^64:Nat):Int),.int .u64 ((m.mask%2^64:Nat):Int),.int .i64 m.pfx,.int .u64 ((m.high/2^64:Nat):Int),.int .u64 ((m.high%2^64:Nat):Int)]) (.agg [.bool false,.int .u64 0,.int .u64 0,.int .u64 0,.int .u64 0,.int .i64 0,.int .u64 0,.int .u64 0])=some (decide (m=cC)):=by
   have:=jx (m:=m) (n:=cC)
   rw[hp]at this
   exact this
  have hk1:(k==1)=!decide (k≠1):=by by_cases h:k=1<;>simp[h]
  generalize decide (m=cC)=b at *
  generalize decide (k≠1)=c at *
  refine Yfu az tNq Tryz.func84 [.tmp 4] fun hcl=>?_
  subst hR
  cases b<;>cases c<;>(simp only[go_sem,gB,hp,hk1,hT,iz,Bool.true_and,Bool.false_and,bt1,bf1];try simp (disch:=first|exact Zd|omega) [↓zmo,beq,ybc,ybd,ybe,af,wk,wk2,wk1,wkM,wkL,aj,ybf,hcl])
 |true=>
  have hf:kS m k=decide (m=gY m k):=by
   unfold kS
   rw[if_neg (by rw[hp];simp)]
  rw[hf]at hR
  clear hf
  rcases(Xa:k=2∨k=3∨k=4∨(k≠2∧k≠3∧k≠4))with hk|hk|hk|⟨hk2,hk3,hk4⟩
  ·skip
   have c2:(k==2)=true:=by rw[hk];rfl
   have c3:(k==3)=false:=by rw[hk];rfl
   have c4:(k==4)=false:=by rw[hk];rfl
   have hu:gY m k=⟨true,m.value,0,m.pfx,0⟩:=by unfold gY;simp[hk]
   have hT:teq Tryz.prog 9 47 (.agg [.bool true,.int .u64 ((m.value/2^64:Nat):Int),.int .u64 ((m.value%2^64:Nat):Int),.int .u64 ((m.mask/2^64:Nat):Int),.int .u64 ((m.mask%2^64:Nat):Int),.int .i64 m.pfx,.int .u64 ((m.high/2^64:Nat):Int),.int .u64 ((m.high%2^64:Nat):Int)]) (.agg [.bool true,.int .u64 ((m.value/2^64:Nat):Int),.int .u64 ((m.value%2^64:Nat):Int),.int .u64 0,.int .u64 0,.int .i64 m.pfx,.int .u64 0,.int .u64 0])=some (decide (m=gY m k)):=by
    exact V53
   exact V20
  ·skip
   have c2:(k==2)=false:=by rw[hk];rfl
   have c3:(k==3)=true:=by rw[hk];rfl
   have c4:(k==4)=false:=by rw[hk];rfl
   have hu:gY m k=⟨true,m.value,m.mask,0,0⟩:=by unfold gY;simp[hk]
   have hT:teq Tryz.prog 9 47 (.agg [.bool true,.int .u64 ((m.value/2^64:Nat):Int),.int .u64 ((m.value%2^64:Nat):Int),.int .u64 ((m.mask/2^64:Nat):Int),.int .u64 ((m.mask%2^64:Nat):Int),.int .i64 m.pfx,.int .u64 ((m.high/2^64:Nat):Int),.int .u64 ((m.high%2^64:Nat):Int)]) (.agg [.bool true,.int .u64 ((m.value/2^64:Nat):Int),.int .u64 ((m.value%2^64:Nat):Int),.int .u64 ((m.mask/2^64:Nat):Int),.int .u64 ((m.mask%2^64:Nat):Int),.int .i64 0,.int .u64 0,.int .u64 0])=some (decide (m=gY m k)):=by
    exact V53
   exact V20
  ·skip
   have c2:(k==2)=false:=by rw[hk];rfl
   have c3:(k==3)=false:=by rw[hk];rfl
   have c4:(k==4)=true:=by rw[hk];rfl
   have hu:gY m k=⟨true,m.value,0,0,m.high⟩:=by unfold gY;simp[hk]
   have hT:teq Tryz.prog 9 47 (.agg [.bool true,.int .u64 ((m.value/2^64:Nat):Int),.int .u64 ((m.value%2^64:Nat):Int),.int .u64 ((m.mask/2^64:Nat):Int),.int .u64 ((m.mask%2^64:Nat):Int),.int .i64 m.pfx,.int .u64 ((m.high/2^64:Nat):Int),.int .u64 ((m.high%2^64:Nat):Int)]) (.agg [.bool true,.int .u64 ((m.value/2^64:Nat):Int),.int .u64 ((m.value%2^64:Nat):Int),.int .u64 0,.int .u64 0,.int .i64 0,.int .u64 ((m.high/2^64:Nat):Int),.int .u64 ((m.high%2^64:Nat):Int)])=some (decide (m=gY m k)):=by
    exact V53
   exact V20
  ·skip
   have c2:(k==2)=false:=by simp[hk2]
   have c3:(k==3)=false:=by simp[hk3]
   have c4:(k==4)=false:=by simp[hk4]
   have hu:gY m k=⟨true,m.value,0,0,0⟩:=by unfold gY;simp[hk2,hk3,hk4]
   have hT:teq Tryz.prog 9 47 (.agg [.bool true,.int .u64 ((m.value/2^64:Nat):Int),.int .u64 ((m.value%2^64:Nat):Int),.int .u64 ((m.mask/2^64:Nat):Int),.int .u64 ((m.mask%2^64:Nat):Int),.int .i64 m.pfx,.int .u64 ((m.high/2^64:Nat):Int),.int .u64 ((m.high%2^64:Nat):Int)]) (.agg [.bool true,.int .u64 ((m.value/2^64:Nat):Int),.int .u64 ((m.value%2^64:Nat):Int),.int .u64 0,.int .u64 0,.int .i64 0,.int .u64 0,.int .u64 0])=some (decide (m=gY m k)):=by
    exact V53
   exact V20
def y3:PCt
 |[.agg l,.int .i64 k,.int .i64 w],_,K=>∃ m:SMatch,(l=bQ m∧MOk m∧0≤w)∧K (.bool (!m.present||jl m k w))
 |_,_,_=>False
theorem B5{x:Nat}{w:Int}(h:x<2^128)(hw:0≤w):decide (x&&&fC w=x)=decide (((bl x:Nat):Int)≤w):=by
 rw[decide_eq_decide]
 unfold fC
 rw[Nat.and_two_pow_sub_one_eq_mod]
 have h1:x%2^cr w=x↔x<2^cr w:=⟨fun e=>by
  have:=Nat.mod_lt x (Nat.two_pow_pos (cr w));omega,fun e=>Nat.mod_eq_of_lt e⟩
 rw[h1,← bl_le]
 have h2:bl x≤128:=bl_le.2 h
 unfold cr
 omega
theorem HG:EPp 85 y3:=by
 refine Ype fun _ H K h=>?_
 unfold y3 at h
 split at h<;>try exact h.elim
 rename_i l k w
 obtain⟨m,⟨rfl,⟨hv,hk,hh⟩,hw⟩,hK⟩:=h
 refine⟨_,hK,?_⟩
 clear hK
 rw[rj]
 obtain⟨pr,v,mk,pf,hi⟩:=m
 dsimp only at hv hk hh
 dsimp only
 unfold jl
 dsimp only
 have i2:=lD hv
 have i3:=lD hk
 have i4:=lD hh
 have hL:=xJ w pf
 have i5:=lD hL
 have hO:=l9 w
 have i6:=lD hO
 have z2:=wP hv
 have z3:=wP hk
 rw[Bool.and_true]at z2 z3
 have bt1:(true !=true)=false:=rfl
 have bf1:(false !=true)=true:=rfl
 have w1:=B5 hv hw
 have w2:=B5 hk hw
 have w3:=B5 hh hw
 cases pr with
 |false=>
  refine Yfw az (tCq fD (tCq dZ (tCq fM (tCq dp tNq)))) Tryz.func85 [.tmp 6] (nrq _) (T:=ay [(8,[[],[],[],[],[],[],[],[],[],[],[],[],[],[],[],[1,5,14],[1,5,11,14,15]])]) (h:=fun hcl=>?_)
  simp only[go_sem,gB,dn,vv,bt1,bf1]
  try simp (disch:=first|exact Zd|omega) [↓zmo,beq,ybc,ybd,ybe,af,wk,wk2,wk1,wkM,wkL,aj,ybf,hcl]
 |true=>
 rw[show(!true)=false from rfl,Bool.false_or]
 by_cases b1:((bl v:Nat):Int)≤w
 rotate_left
 ·rw[if_neg (fun h=>b1 h.1)]
  have d1:decide (((bl v:Nat):Int)≤w)=false:=dfq b1
  refine Yfw az (tCq fD (tCq dZ (tCq fM (tCq dp tNq)))) Tryz.func85 [.tmp 6] (nrq _) (T:=ay [(8,[[],[],[],[],[],[],[],[],[],[],[],[],[],[],[],[1,5,14],[1,5,11,14,15]])]) (h:=fun hcl=>?_)
  simp only[go_sem,gB,dn,eL,p2V,vv,i2,i3,i4,i5,i6,w1,w2,w3,bt1,bf1,iNq,bZ,d1]
  refine T0 ?_
  exact Z0
 have d1:decide (((bl v:Nat):Int)≤w)=true:=dtq b1
 by_cases b2:((bl mk:Nat):Int)≤w
 rotate_left
 ·rw[if_neg (fun h=>b2 h.2.1)]
  have d2:decide (((bl mk:Nat):Int)≤w)=false:=dfq b2
  refine Yfw az (tCq fD (tCq dZ (tCq fM (tCq dp tNq)))) Tryz.func85 [.tmp 6] (nrq _) (T:=ay [(8,[[],[],[],[],[],[],[],[],[],[],[],[],[],[],[],[1,5,14],[1,5,11,14,15]])]) (h:=fun hcl=>?_)
  simp only[go_sem,gB,dn,eL,p2V,vv,i2,i3,i4,i5,i6,w1,w2,w3,bt1,bf1,iNq,bZ,d1,d2]
  refine T0 ?_
  exact Z0
 have d2:decide (((bl mk:Nat):Int)≤w)=true:=dtq b2
 by_cases b3:((bl hi:Nat):Int)≤w
 rotate_left
 ·rw[if_neg (fun h=>b3 h.2.2)]
  have d3:decide (((bl hi:Nat):Int)≤w)=false:=dfq b3
  refine Yfw az (tCq fD (tCq dZ (tCq fM (tCq dp tNq)))) Tryz.func85 [.tmp 6] (nrq _) (T:=ay [(8,[[],[],[],[],[],[],[],[],[],[],[],[],[],[],[],[1,5,14],[1,5,11,14,15]])]) (h:=fun hcl=>?_)
  simp only[go_sem,gB,dn,eL,p2V,vv,i2,i3,i4,i5,i6,w1,w2,w3,bt1,bf1,iNq,bZ,d1,d2,d3]
  refine T0 ?_
  exact Z0
 have d3:decide (((bl hi:Nat):Int)≤w)=true:=dtq b3
 rw[if_pos ⟨b1,b2,b3⟩]
 by_cases k2:k=2
 ·subst k2
  rw[if_pos rfl]
  by_cases p1:pf ≥ 1
  rotate_left
  ·rw[dfq (fun h=>p1 h.1)]
   have g1:decide (pf ≥ 1)=false:=dfq p1
   refine Yfw az (tCq fD (tCq dZ (tCq fM (tCq dp tNq)))) Tryz.func85 [.tmp 6] (nrq _) (T:=ay [(8,[[],[],[],[],[],[],[],[],[],[],[],[],[],[],[],[1,5,14],[1,5,11,14,15]])]) (h:=fun hcl=>?_)
   simp only[go_sem,gB,dn,eL,p2V,vv,i2,i3,i4,i5,i6,w1,w2,w3,bt1,bf1,iNq,bZ,d1,d2,d3,beq_self_eq_true,g1]
   refine T0 ?_
   exact Z0
  have g1:decide (pf ≥ 1)=true:=dtq p1
  by_cases p2:pf≤w
  rotate_left
  ·rw[dfq (fun h=>p2 h.2.1)]
   have g2:decide (pf≤w)=false:=dfq p2
   refine Yfw az (tCq fD (tCq dZ (tCq fM (tCq dp tNq)))) Tryz.func85 [.tmp 6] (nrq _) (T:=ay [(8,[[],[],[],[],[],[],[],[],[],[],[],[],[],[],[],[1,5,14],[1,5,11,14,15]])]) (h:=fun hcl=>?_)
   simp only[go_sem,gB,dn,eL,p2V,vv,i2,i3,i4,i5,i6,w1,w2,w3,bt1,bf1,iNq,bZ,d1,d2,d3,beq_self_eq_true,g1,g2]
   refine T0 ?_
   exact Z0
  have g2:decide (pf≤w)=true:=dtq p2
  have g3:decide (pf ≥ 1∧pf≤w∧v&&&mc w pf=v)=decide (v&&&mc w pf=v):=by rw[decide_eq_decide];exact⟨fun h=>h.2.2,fun h=>⟨p1,p2,h⟩⟩
  rw[g3]
  refine Yfw az (tCq fD (tCq dZ (tCq fM (tCq dp tNq)))) Tryz.func85 [.tmp 6] (nrq _) (T:=ay [(8,[[],[],[],[],[],[],[],[],[],[],[],[],[],[],[],[1,5,14],[1,5,11,14,15]])]) (h:=fun hcl=>?_)
  simp only[go_sem,gB,dn,eL,p2V,vv,i2,i3,i4,i5,i6,w1,w2,w3,bt1,bf1,iNq,bZ,d1,d2,d3,beq_self_eq_true,g1,g2,kU,fU,cZ,cY,Bool.bne_false,gS,fI]
  refine T0 ?_
  exact Z0
 rw[if_neg k2]
 have n2:(k==2)=false:=by simpa using k2
 by_cases k3:k=3
 ·subst k3
  rw[if_pos rfl]
  have c2:((3:Int)==2)=false:=rfl
  by_cases p1:mk=0
  ·rw[dfq (fun h=>h.1 p1)]
   have g1:decide (mk=0)=true:=dtq p1
   exact V40
  have g1:decide (mk=0)=false:=dfq p1
  have g3:decide (mk≠0∧v&&&mk=v)=decide (v&&&mk=v):=by rw[decide_eq_decide];exact⟨fun h=>h.2,fun h=>⟨p1,h⟩⟩
  rw[g3]
  exact V40
 rw[if_neg k3]
 have n3:(k==3)=false:=by simpa using k3
 by_cases k4:k=4
 ·subst k4
  rw[if_pos rfl]
  have c2:((4:Int)==2)=false:=rfl
  have c3:((4:Int)==3)=false:=rfl
  by_cases p1:v=0
  ·have g1:decide (v=0)=true:=dtq p1
   have g3:decide (v≤hi∧¬ (v=0∧hi=fC w))=(decide (v≤hi)&&!decide (hi=fC w)):=by
    rw[Bool.eq_iff_iff];simp[p1]
   rw[g3]
   cases q:decide (v≤hi)
   ·rw[Bool.false_and]
    exact V13
   ·rw[Bool.true_and]
    exact V13
  ·have g1:decide (v=0)=false:=dfq p1
   have g3:decide (v≤hi∧¬ (v=0∧hi=fC w))=decide (v≤hi):=by
    exact V173
   rw[g3]
   cases q:decide (v≤hi)
   ·skip
    exact V13
   ·skip
    exact V13
 rw[if_neg k4]
 have n4:(k==4)=false:=by simpa using k4
 refine Yfw az (tCq fD (tCq dZ (tCq fM (tCq dp tNq)))) Tryz.func85 [.tmp 6] (nrq _) (T:=ay [(8,[[],[],[],[],[],[],[],[],[],[],[],[],[],[],[],[1,5,14],[1,5,11,14,15]])]) (h:=fun hcl=>?_)
 simp only[go_sem,gB,dn,eL,p2V,vv,i2,i3,i4,i5,i6,w1,w2,w3,bt1,bf1,iNq,bZ,d1,d2,d3,beq_self_eq_true,cZ,cY,Bool.bne_false,z2,z3,kU,fU,gS,fI,io,n2,n3,n4]
 refine T0 ?_
 exact Z0
def qR:SKey→Bool:=fun k=>k.kind==3||k.kind==4
def Fv:PCt
 |[.agg l],_,K=>∃ t:STable,(bc t=.agg l∧t.keys.length≤1000000)∧K (.bool (oX t))
 |_,_,_=>False
theorem N2:EPp 87 Fv:=by
 refine Ype fun _ H K h=>?_
 unfold Fv at h
 split at h<;>try exact h.elim
 rename_i l
 obtain⟨t,⟨ht,hl⟩,hK⟩:=h
 refine⟨_,hK,?_⟩
 clear hK
 have hr:oX t=decide (0≤ixP qR t.keys 0):=rfl
 rw[hr]
 unfold bc at ht
 cases ht
 generalize t.keys=ks at *
 generalize hR:ixP qR ks 0=R
 refine Yfv az tNq Tryz.func87 [.tmp 2] fun hcl hlt=>?_
 have hx:=AV.lt_mono (Nat.le_succ H.nx) _ (hlt (.agg [.int .i64 t.id,.str t.name,.slice .any 3 (ks.map bL),.slice .any 1 (inL t.actions),.int .i64 t.dflt,.slice .any 2 (t.dargs.map vv),.int .i64 t.size,.str t.restr]) Xb)
 have hm:∀ n',H.nx≤n'→AV.lt n' (.slice .any 3 (ks.map bL)):=fun n' hn=>by
  have h0:=AV.lt_mono hn _ (hlt (.agg [.int .i64 t.id,.str t.name,.slice .any 3 (ks.map bL),.slice .any 1 (inL t.actions),.int .i64 t.dflt,.slice .any 2 (t.dargs.map vv),.int .i64 t.size,.str t.restr]) Xb)
  rw[znr]at h0;exact h0.2.2.1
 simp only[znr]at hx
 clear hlt
 simp only[go_sem,ybb]
 refine aA (A:=Nat) (fun k=>[(6,.slice .any 3 (ks.map bL)),(7,.int .i64 (ks.length:Int)),(8,.int .i64 (k:Int))]) (fun _=>H) (fun k=>k≤ks.length∧ixP qR (ks.drop k) k=R) (fun k=>ks.length-k) 0 ⟨Xa,hR⟩ ?_ fun k hk=>?_
 ·refine⟨by(try simp only[zkq,zkv]);omega,by repeat first|exact .refl _|refine .push ?_ _,hcl,?_,?_⟩
  ·simp[ltF,znf,hm]
  ·exact V8
 clear hR
 obtain⟨hk,hR⟩:=hk
 refine T9 ?_
 refine aq (fun hc=>?_) (fun hc=>?_)
 ·have hk':k<ks.length:=sHc
  obtain⟨x,hx1⟩:∃ x,x=ks[k]:=⟨_,rfl⟩
  have hd:ks.drop k=x::ks.drop (k+1):=by rw[hx1];exact dcq hk'
  have hg:=bf (f:=bL) (l:=ks) (k:=k) (x:=x) (by rw[gQq hk',hx1])
  have e5:=Yk5 k
  rw[hd]at hR
  unfold ixP at hR
  have hq:qR x=(x.kind==3||x.kind==4):=rfl
  cases q3:(x.kind==3)with
  |true=>
   rw[hq,q3,Bool.true_or,if_pos rfl]at hR
   have dR:decide (0≤R)=true:=dtq Xa
   simp only[go_sem,iNq,bL,hg,ybb,q3]
   refine T0 ?_
   rw[dR]
   exact Z0
  |_=>
   cases q4:(x.kind==4)with
   |true=>
    rw[hq,q3,q4,Bool.or_true,if_pos rfl]at hR
    have dR:decide (0≤R)=true:=dtq Xa
    simp only[go_sem,iNq,bL,hg,ybb,q3,q4]
    refine T0 ?_
    rw[dR]
    exact Z0
   |_=>
    rw[hq,q3,q4,Bool.or_false,if_neg (Xc)]at hR
    simp only[go_sem,iNq,bL,hg,ybb,q3,q4,e5]
    refine⟨Xa,k+1,⟨Xa,hR⟩,Xa,?_⟩
    refine⟨by(try simp only[zkq,zkv]);omega,by repeat first|exact .refl _|refine .push ?_ _,hcl,?_,?_⟩
    ·simp[ltF,znf,hm]
    ·exact V8
 ·have hk':k=ks.length:=sHc
  exact V22
structure SChk(S:Sch):Prop where
 sl:SLen S
 kl:∀ t∈S.tables,t.keys.length≤1000
 kf:∀ t∈S.tables,∀ k∈t.keys,Ed S k.field∧0≤cV S k.field
theorem ne{n:Nat}(S:Sch):ltL n [.slice .any 3 (S.fields.map cD),.slice .any 3 (S.headers.map gr),.slice .any 5 (S.states.map dY),.slice .any 5 (S.actions.map bu),.slice .any 8 (S.tables.map bc),.slice .any 2 (S.stages.map jh),.slice .any 6 (S.roles.map cG),.slice .any 6 (S.refs.map pj),.int .i64 S.maxBatch,.int .i64 S.budget]:=by
 have:=@u7 n S
 unfold yC bb at this
 rwa[znr]at this
theorem Q6{n:Nat}(t:STable):ltL n [.int .i64 t.id,.str t.name,.slice .any 3 (t.keys.map bL),.slice .any 1 (inL t.actions),.int .i64 t.dflt,.slice .any 2 (t.dargs.map vv),.int .i64 t.size,.str t.restr]:=by
 have:=dM (n:=n) t
 unfold bc at this
 rwa[znr]at this
theorem qt{n:Nat}(e:SEntry):ltL n [.int .i64 e.table,.slice .any 8 (e.ms.map aP),.int .i64 e.prio,.int .i64 e.act,.slice .any 2 (e.args.map vv)]:=ltL_iff.2 fun j hj=>AV.lt_cells (qq e) j hj
def qc:PCt
 |[.agg l,.agg le],_,K=>∃ (S:Sch) (e:SEntry),(l=bb S∧le=a9 e∧SChk S∧EOk e)∧K (.int .i64 (dD S e))
 |_,_,_=>False
theorem BR:EPp 51 qc:=by
 refine Ype fun _ H K h=>?_
 unfold qc at h
 split at h<;>try exact h.elim
 rename_i l le
 obtain⟨S,e,⟨rfl,rfl,hS,he⟩,hK⟩:=h
 refine⟨_,hK,?_⟩
 clear hK
 generalize hR:dD S e=R
 unfold dD iW at hR
 refine Yfw az (tCq mJ (tCq Ks (tCq HG (tCq DI (tCq N2 tNq))))) Tryz.func51 [.tmp 4] (nrq _) (T:=ay [(10,[[],[],[],[],[],[],[],[1,4,6]]),(13,[[],[],[],[],[],[],[],[],[],[],[7,8],[1,4,6,7,8,10]]),(16,[[],[0],[],[],[],[],[],[],[1],[],[],[],[],[1]])]) (h:=fun hcl=>?_)
 refine T40 ?_
 refine⟨S,⟨rfl,hS.sl⟩,?_⟩
 obtain⟨c1,c2⟩:=oW (q:=fun t:STable=>t.id==e.table) (l:=S.tables) (k:=0)
 rcases c2 with b1|c2
 ·rw[ll b1]at hR
  exact V90
 obtain⟨i,hi⟩:∃ i:Nat,ixP (fun t:STable=>t.id==e.table) S.tables 0=((0+i:Nat):Int):=⟨(ixP (fun t:STable=>t.id==e.table) S.tables 0).toNat,Xa⟩
 obtain⟨t,h1,h2,h3⟩:=lQ hi
 rw[h3]at hR
 dsimp only at hR
 rw[nzq]at hi
 rw[hi]
 have hil:i<S.tables.length:=Xa
 have d:decide ((i:Int)<0)=false:=Xb
 have hg':=bf (f:=bc) (l:=S.tables) (k:=i) (x:=t) h1
 have htm:t∈S.tables:=List.mem_of_getElem? h1
 have hkl:=hS.kl t htm
 have hkf:=hS.kf t htm
 have hel:=he.ml
 by_cases hlen:e.ms.length=t.keys.length
 rotate_left
 ·rw[if_neg hlen]at hR
  subst hR
  have dl:((e.ms.length:Int) !=(t.keys.length:Int))=true:=Xd
  refine T36 ?_
  refine T0 ?_
  exact Z0
 rw[if_pos hlen]at hR
 have dl:((e.ms.length:Int) !=(t.keys.length:Int))=false:=by simp[hlen]
 refine T36 ?_
 refine T0 ?_
 obtain⟨Q,hQ⟩:∃ Q,fj S e.ms t.keys=Q:=⟨_,rfl⟩
 rw[hQ]at hR
 have hcH:(((H.push (.cells [.slice .any 3 (S.fields.map cD),.slice .any 3 (S.headers.map gr),.slice .any 5 (S.states.map dY),.slice .any 5 (S.actions.map bu),.slice .any 8 (S.tables.map bc),.slice .any 2 (S.stages.map jh),.slice .any 6 (S.roles.map cG),.slice .any 6 (S.refs.map pj),.int .i64 S.maxBatch,.int .i64 S.budget])).push (.cells [.int .i64 e.table,.slice .any 8 (e.ms.map aP),.int .i64 e.prio,.int .i64 e.act,.slice .any 2 (e.args.map vv)])).push (.cells [.int .i64 t.id,.str t.name,.slice .any 3 (t.keys.map bL),.slice .any 1 (inL t.actions),.int .i64 t.dflt,.slice .any 2 (t.dargs.map vv),.int .i64 t.size,.str t.restr])).Closed:=aa (aa (aa hcl (ne S)) (qt e)) (Q6 t)
 have hmk:∀ n',AV.lt n' (.slice .any 3 (t.keys.map bL)):=fun n'=>by
  have:=dM (n:=n') t
  unfold bc at this
  rw[znr]at this
  exact this.2.2.1
 refine aA (A:=Nat) (fun k=>[(2,.ptr H.nx 0),(3,.ptr (H.nx+1) 0),(6,.ptr (H.nx+1+1) 0),(29,.slice .any 3 (t.keys.map bL)),(30,.int .i64 (t.keys.length:Int)),(31,.int .i64 (k:Int))]) (fun _=>(((H.push (.cells [.slice .any 3 (S.fields.map cD),.slice .any 3 (S.headers.map gr),.slice .any 5 (S.states.map dY),.slice .any 5 (S.actions.map bu),.slice .any 8 (S.tables.map bc),.slice .any 2 (S.stages.map jh),.slice .any 6 (S.roles.map cG),.slice .any 6 (S.refs.map pj),.int .i64 S.maxBatch,.int .i64 S.budget])).push (.cells [.int .i64 e.table,.slice .any 8 (e.ms.map aP),.int .i64 e.prio,.int .i64 e.act,.slice .any 2 (e.args.map vv)])).push (.cells [.int .i64 t.id,.str t.name,.slice .any 3 (t.keys.map bL),.slice .any 1 (inL t.actions),.int .i64 t.dflt,.slice .any 2 (t.dargs.map vv),.int .i64 t.size,.str t.restr])))
  (fun k=>k≤t.keys.length∧fj S (e.ms.drop k) (t.keys.drop k)=Q) (fun k=>t.keys.length-k) 0 ⟨Nat.zero_le _,hQ⟩ ?_ fun k hk=>?_
 ·refine⟨Xj,by repeat first|exact .refl _|refine .push ?_ _,hcH,?_,?_⟩
  ·simp[ltF,zle,znn,znf,hmk]
   try omega
  ·exact V8
 clear hQ
 obtain⟨hk,hQ⟩:=hk
 refine T11 ?_
 refine aq (fun hc=>?_) (fun hc=>?_)
 ·have hk':k<t.keys.length:=sHc
  have hkm:k<e.ms.length:=Xa
  obtain⟨x,hx⟩:∃ x,x=t.keys[k]:=⟨_,rfl⟩
  obtain⟨m,hm⟩:∃ m,m=e.ms[k]:=⟨_,rfl⟩
  have hd:t.keys.drop k=x::t.keys.drop (k+1):=by rw[hx];exact dcq hk'
  have hdm:e.ms.drop k=m::e.ms.drop (k+1):=by rw[hm];exact dcq hkm
  have hgx:=bf (f:=bL) (l:=t.keys) (k:=k) (x:=x) (by rw[gQq hk',hx])
  have hgm:=bf (f:=aP) (l:=e.ms) (k:=k) (x:=m) (by rw[gQq hkm,hm])
  have hxk:t.keys[k]?=some x:=by rw[gQq hk',hx]
  obtain⟨kf1,kf2⟩:=hkf x (by rw[hx];exact gMq hk')
  have mo:=he.mo m (by rw[hm];exact gMq hkm)
  have e5:=Yk5 k
  rw[hd,hdm]at hQ
  unfold fj at hQ
  simp only[bn,aF,bhq,go_sem,iNq,hgx,hgm,bL,aP,ybb,A8]
  have h8:(8≤(bQ m).length)=True:=eq_true (nrq 8)
  refine⟨Xa,Xa,of_eq_true h8,m,rfl,?_⟩
  cases hf:kS m x.kind with
  |false=>
   rw[hf,if_pos rfl]at hQ
   subst hQ
   rw[if_neg (Xc)]at hR
   subst hR
   have d1:((if false=true then(0:Int)else 13) !=0)=true:=rfl
   have d2:(if false=true then(0:Int)else 13)=13:=rfl
   have d3:((13:Int) !=0)=true:=rfl
   simp only[d2,d3]
   exact V61
  |true=>
  rw[hf,if_neg (Xc)]at hQ
  have d1:((if true=true then(0:Int)else 13) !=0)=false:=rfl
  have d2:(if true=true then(0:Int)else 13)=0:=rfl
  have d3:((0:Int) !=0)=false:=rfl
  simp only[d2]
  simp only[bn,aF,bhq,go_sem,d3,iNq,hgx,hgm,bL,aP,ybb,sx]
  refine⟨Xa,of_eq_true h8,S,t,k,x,⟨rfl,rfl,rfl,hxk,hS.sl,kf1⟩,?_⟩
  simp only[bn,aF,bhq,go_sem,y3]
  refine⟨m,⟨rfl,mo,kf2⟩,?_⟩
  have dn1:(!true)=false:=rfl
  have dn2:(!false)=true:=rfl
  cases hp:(m.present&&!jl m x.kind (cV S x.field))with
  |true=>
   rw[hp,if_pos rfl]at hQ
   subst hQ
   rw[if_neg (Xc)]at hR
   subst hR
   have hp2:(!m.present||jl m x.kind (cV S x.field))=false:=by
    rw[Bool.and_eq_true]at hp
    rw[hp.1]
    have:=hp.2
    cases hq:jl m x.kind (cV S x.field)with
    |true=>rw[hq]at this;cases this
    |_=>rfl
   rw[hp2]
   exact V55
  |false=>
   rw[hp,if_neg (Xc)]at hQ
   have hp2:(!m.present||jl m x.kind (cV S x.field))=true:=by
    cases hq:jl m x.kind (cV S x.field)<;>cases hr:m.present<;>rw[hq,hr]at hp<;>first|rfl|cases hp
   rw[hp2]
   refine T27 ?_
   refine⟨k+1,⟨Xa,hQ⟩,Xa,?_⟩
   refine⟨Xj,by repeat first|exact .refl _|refine .push ?_ _,hcH,?_,?_⟩
   ·simp[ltF,zle,znn,znf,hmk]
    try omega
   ·exact V8
 ·have hk':k=t.keys.length:=sHc
  subst hk'
  rw[List.drop_length,← hlen,List.drop_length]at hQ
  have hQ0:Q=0:=by rw[← hQ];rfl
  rw[if_pos hQ0]at hR
  unfold GR at hR
  simp only[bn,aF,bhq,go_sem,Fv]
  refine⟨t,⟨rfl,Xa⟩,?_⟩
  have b1:(true !=true)=false:=rfl
  have b2:(true !=false)=true:=rfl
  have b3:(false !=true)=true:=rfl
  have b4:(false !=false)=false:=rfl
  have b5:(true==true)=true:=rfl
  have b6:(true==false)=false:=rfl
  have b7:(false==true)=false:=rfl
  have b8:(false==false)=true:=rfl
  cases hr:oX t with
  |true=>
   rw[hr,if_pos rfl]at hR
   by_cases p0:e.prio=0
   ·rw[if_pos (Xa)]at hR
    subst hR
    have c1:(e.prio !=0)=false:=by simp[p0]
    exact V119
   have c1:(e.prio !=0)=true:=by simp[p0]
   by_cases p1:e.prio<0
   ·rw[if_pos (Xa)]at hR
    subst hR
    have c2:decide (e.prio<0)=true:=dtq p1
    simp only[bn,aF,bhq,go_sem,c1,c2,b1,b2,b3,b4,b5,b6,b7,b8]
    exact Z0
   have c2:decide (e.prio<0)=false:=dfq p1
   by_cases p2:65535<e.prio
   ·rw[if_pos (Xa)]at hR
    subst hR
    have c3:decide (65535<e.prio)=true:=dtq p2
    exact V66
   rw[if_neg (Xa)]at hR
   subst hR
   have c3:decide (65535<e.prio)=false:=dfq p2
   exact V66
  |_=>
   rw[hr,if_neg (Xc)]at hR
   by_cases p0:e.prio=0
   ·rw[if_neg (Xa)]at hR
    subst hR
    have c1:(e.prio !=0)=false:=by simp[p0]
    have c2:decide (e.prio<0)=false:=dfq Xa
    have c3:decide (65535<e.prio)=false:=dfq Xa
    exact V66
   rw[if_pos (Xa)]at hR
   subst hR
   have c1:(e.prio !=0)=true:=by simp[p0]
   exact V119
def wx:List SParam→List Nat→Bool
 |p::ps,v::vs=>decide (((bl v:Nat):Int)≤p.bits)&&wx ps vs
 |_,_=>true
def CW(S:Sch)(id:Int):Option SAction:=S.actions.find? fun a=>a.id==id
def eN(S:Sch)(e:SEntry):Int:=match iW S e.table with
 |none=>6
 |some t=>match CW S e.act with
  |none=>6
  |some a=>if t.actions.contains e.act=true then(if e.args.length=a.params.length then(if wx a.params e.args=true then 0 else 5)else 13)else 6
structure EArg(e:SEntry):Prop where
 ar:∀ x∈e.args,x<2^128
 al:e.args.length≤140737488355328
structure SAct(S:Sch):Prop where
 sl:SLen S
 pl:∀ a∈S.actions,a.params.length≤1000
 tl:∀ t∈S.tables,t.actions.length≤1000∧∀ n∈t.actions,∃ a,CW S n=some a
theorem rh{α:Type}{q:α→Bool}{l:List α}:(ixP q l 0 = -1∧l.find? q=none)∨∃ (i:Nat) (x:α),ixP q l 0=(i:Int)∧i<l.length∧l[i]?=some x∧l.find? q=some x∧q x=true:=by
 exact V64
def pM:PCt
 |[.agg l,.agg le],_,K=>∃ (S:Sch) (e:SEntry),(l=bb S∧le=a9 e∧SAct S∧EArg e)∧K (.int .i64 (eN S e))
 |_,_,_=>False
theorem A5:EPp 47 pM:=by
 refine Ype fun _ H K h=>?_
 unfold pM at h
 split at h<;>try exact h.elim
 rename_i l le
 obtain⟨S,e,⟨rfl,rfl,hS,he⟩,hK⟩:=h
 refine⟨_,hK,?_⟩
 clear hK
 generalize hR:eN S e=R
 unfold eN at hR
 refine Yfw az (tCq qF (tCq tw (tCq B8 (tCq fP tNq)))) Tryz.func47 [.tmp 4] (nrq _) (T:=ay [(11,[[],[],[],[],[],[],[0,5]])]) (h:=fun hcl=>?_)
 have dn1:(!true)=false:=rfl
 have dn2:(!false)=true:=rfl
 simp only[bn,aF,bhq,go_sem,bb,a9,nV]
 refine⟨S,⟨rfl,hS.sl.tl⟩,?_⟩
 cases ht:iW S e.table with
 |none =>
  rw[ht]at hR
  dsimp only at hR
  subst hR
  simp only[bn,aF,bhq,go_sem,bc,t6,yaf,inL,lr]
  refine⟨S,⟨rfl,hS.sl.al⟩,?_⟩
  try simp only[bn,aF,bhq,go_sem,dn1,dn2]
  exact Z0
 |some t =>
 rw[ht]at hR
 dsimp only at hR
 have htm:t∈S.tables:=List.mem_of_find?_eq_some ht
 obtain⟨tl1,tl2⟩:=hS.tl t htm
 simp only[bn,aF,bhq,go_sem,bc,lr]
 refine⟨S,⟨rfl,hS.sl.al⟩,?_⟩
 unfold CW at hR
 rcases rh (q:=fun a:SAction=>a.id==e.act) (l:=S.actions)with⟨q1,q2⟩|⟨j,a,q1,hjl,q3,q2,_⟩
 ·rw[q2]at hR
  dsimp only at hR
  subst hR
  rw[q1]
  have d:decide ((-1:Int)<0)=true:=rfl
  simp only[bn,aF,bhq,go_sem,dn1,dn2,d]
  exact Z0
 rw[q2]at hR
 dsimp only at hR
 rw[q1]
 have dj:decide ((j:Int)<0)=false:=Xb
 have hga:=bf (f:=bu) (l:=S.actions) (k:=j) (x:=a) q3
 have hpl:=hS.pl a (List.mem_of_getElem? q3)
 simp only[bn,aF,bhq,go_sem,dn1,dn2,dj,xI]
 refine⟨t.actions,⟨rfl,Xa⟩,?_⟩
 cases hcn:t.actions.contains e.act with
 |false=>
  rw[hcn,if_neg (Xc)]at hR
  subst hR
  exact V55
 |true=>
 rw[hcn,if_pos rfl]at hR
 simp only[bn,aF,bhq,go_sem,dn1,dn2,iNq,hga,bu,ybb]
 by_cases hlen:e.args.length=a.params.length
 rotate_left
 ·rw[if_neg hlen]at hR
  subst hR
  have dl:((e.args.length:Int) !=(a.params.length:Int))=true:=Xd
  refine T43 ?_
  exact V32
 rw[if_pos hlen]at hR
 have dl:((e.args.length:Int) !=(a.params.length:Int))=false:=by simp[hlen]
 refine T43 ?_
 refine⟨Xa,?_⟩
 have hal:=he.al
 refine aA (A:=Nat) (fun k=>[(8,.slice .any 2 (a.params.map bV)),(48,.slice .any 2 (e.args.map vv)),(49,.int .i64 (e.args.length:Int)),(50,.int .i64 (k:Int))]) (fun _=>H)
  (fun k=>k≤e.args.length∧(if wx (a.params.drop k) (e.args.drop k)=true then(0:Int)else 5)=R) (fun k=>e.args.length-k) 0 ⟨Nat.zero_le _,hR⟩ ?_ fun k hk=>?_
 ·refine⟨Xj,by repeat first|exact .refl _|refine .push ?_ _,hcl,?_,?_⟩
  ·simp[ltF,zle,znn,znf,bk jN,nt]
   try omega
  ·exact V8
 clear hR
 obtain⟨hk,hR⟩:=hk
 refine T11 ?_
 refine aq (fun hc=>?_) (fun hc=>?_)
 ·have hk':k<e.args.length:=sHc
  have hkp:k<a.params.length:=Xa
  obtain⟨x,hx⟩:∃ x,x=e.args[k]:=⟨_,rfl⟩
  obtain⟨p,hp⟩:∃ p,p=a.params[k]:=⟨_,rfl⟩
  have hd:e.args.drop k=x::e.args.drop (k+1):=by rw[hx];exact dcq hk'
  have hdp:a.params.drop k=p::a.params.drop (k+1):=by rw[hp];exact dcq hkp
  have hgx:=bf (f:=vv) (l:=e.args) (k:=k) (x:=x) (by rw[gQq hk',hx])
  have hgp:=bf (f:=bV) (l:=a.params) (k:=k) (x:=p) (by rw[gQq hkp,hp])
  have hxl:=he.ar x (by rw[hx];exact gMq hk')
  have iv:=lD hxl
  have e5:=Yk5 k
  rw[hd,hdp]at hR
  unfold wx at hR
  simp only[bn,aF,bhq,go_sem,iNq,hgx,hgp,vv,bV,ybb,gd,bZ,iv]
  refine T0 ?_
  cases hq:decide (((bl x:Nat):Int)≤p.bits)with
  |false=>
   rw[hq,Bool.false_and,if_neg (Xc)]at hR
   exact V94
  |true=>
   rw[hq,Bool.true_and]at hR
   refine T27 ?_
   refine T1 ?_
   refine⟨k+1,⟨Xa,hR⟩,Xa,?_⟩
   refine⟨Xj,by repeat first|exact .refl _|refine .push ?_ _,hcl,?_,?_⟩
   ·simp[ltF,zle,znn,znf,bk jN,nt]
    try omega
   ·exact V8
 ·have hk':k=e.args.length:=sHc
  subst hk'
  have hf:wx (a.params.drop e.args.length) (e.args.drop e.args.length)=true:=by
   rw[List.drop_length,hlen,List.drop_length];rfl
  rw[hf,if_pos rfl]at hR
  subst hR
  exact V61
def Lq(ps:List SParam)(vs:List Nat):Bool:=decide (vs.length=ps.length)&&wx ps vs
def sS:PCt
 |[.agg l,.slice _ 2 z],_,K=>∃ (a:SAction) (vs:List Nat),(bu a=.agg l∧z=vs.map vv∧a.params.length≤1000∧∀ x∈vs,x<2^128)∧K (.bool (Lq a.params vs))
 |_,_,_=>False
theorem Dw:EPp 89 sS:=by
 refine Ype fun _ H K h=>?_
 unfold sS at h
 split at h<;>try exact h.elim
 rename_i l m z
 obtain⟨a,vs,⟨ha,rfl,hpl,hvs⟩,hK⟩:=h
 refine⟨_,hK,?_⟩
 clear hK
 unfold bu at ha
 cases ha
 generalize hR:Lq a.params vs=R
 unfold Lq at hR
 refine ACalls.fW az (tCq K4 tNq) Tryz.func89 [.tmp 4] (nrq _) (T:=ay [(6,[[],[],[],[],[],[],[3,5]])]) (h:=fun hcl hlt=>?_)
 have hm:∀ n',H.nx≤n'→AV.lt n' (.slice m 2 (vs.map vv)):=fun n' hn=>AV.lt_mono hn _ (hlt (.slice m 2 (vs.map vv)) Xb)
 clear hlt
 have dn1:(!true)=false:=rfl
 have dn2:(!false)=true:=rfl
 by_cases hlen:vs.length=a.params.length
 rotate_left
 ·rw[dfq hlen,Bool.false_and]at hR
  subst hR
  have dl:((vs.length:Int) !=(a.params.length:Int))=true:=Xd
  refine T41 ?_
  exact Z0
 rw[dtq hlen,Bool.true_and]at hR
 have dl:((vs.length:Int) !=(a.params.length:Int))=false:=by simp[hlen]
 refine T41 ?_
 refine aA (A:=Nat) (fun k=>[(1,.slice m 2 (vs.map vv)),(14,.slice .any 2 (a.params.map bV)),(15,.int .i64 (a.params.length:Int)),(16,.int .i64 (k:Int))]) (fun _=>H)
  (fun k=>k≤a.params.length∧wx (a.params.drop k) (vs.drop k)=R) (fun k=>a.params.length-k) 0 ⟨Nat.zero_le _,hR⟩ ?_ fun k hk=>?_
 ·refine⟨Xj,by repeat first|exact .refl _|refine .push ?_ _,hcl,?_,?_⟩
  ·simp[ltF,zle,znn,znf,bk jN,nt,hm,nq]
   try omega
  ·exact V8
 clear hR
 obtain⟨hk,hR⟩:=hk
 refine T11 ?_
 refine aq (fun hc=>?_) (fun hc=>?_)
 ·have hk':k<a.params.length:=sHc
  have hkv:k<vs.length:=Xa
  obtain⟨x,hx⟩:∃ x,x=vs[k]:=⟨_,rfl⟩
  obtain⟨p,hp⟩:∃ p,p=a.params[k]:=⟨_,rfl⟩
  have hd:vs.drop k=x::vs.drop (k+1):=by rw[hx];exact dcq hkv
  have hdp:a.params.drop k=p::a.params.drop (k+1):=by rw[hp];exact dcq hk'
  have hgx:=bf (f:=vv) (l:=vs) (k:=k) (x:=x) (by rw[gQq hkv,hx])
  have hgp:=bf (f:=bV) (l:=a.params) (k:=k) (x:=p) (by rw[gQq hk',hp])
  have hxl:=hvs x (by rw[hx];exact gMq hkv)
  have iv:=lD hxl
  have e5:=Yk5 k
  rw[hd,hdp]at hR
  unfold wx at hR
  simp only[bn,aF,bhq,go_sem,iNq,hgx,hgp,vv,bV,ybb,BL,bZ,iv]
  refine T0 ?_
  cases hq:decide (((bl x:Nat):Int)≤p.bits)with
  |false=>
   rw[hq,Bool.false_and]at hR
   exact V94
  |true=>
   rw[hq,Bool.true_and]at hR
   refine T27 ?_
   refine T1 ?_
   refine⟨k+1,⟨Xa,hR⟩,Xa,?_⟩
   refine⟨Xj,by repeat first|exact .refl _|refine .push ?_ _,hcl,?_,?_⟩
   ·simp[ltF,zle,znn,znf,bk jN,nt,hm,nq]
    try omega
   ·exact V8
 ·have hk':k=a.params.length:=sHc
  subst hk'
  have hf:wx (a.params.drop a.params.length) (vs.drop a.params.length)=true:=by
   rw[List.drop_length,← hlen,List.drop_length];rfl
  rw[hf]at hR
  subst hR
  exact V61
def qx:PCt
 |[.agg l,.agg le],_,K=>∃ (S:Sch) (e:SEntry),(l=bb S∧le=a9 e∧SAct S∧EArg e)∧K (.int .i64 (eN S e))
 |_,_,_=>False
def NR(S:Sch)(e:SEntry):Int:=match CW S e.act with
 |none=>6
 |some a=>if e.args.length=a.params.length then(if wx a.params e.args=true then 0 else 5)else 13
theorem Ci(S:Sch)(e:SEntry)(t:STable)(ht:iW S e.table=some t):eN S e=if t.actions.contains e.act=true then NR S e else 6:=by
 unfold eN NR
 rw[ht]
 dsimp only
 cases CW S e.act with
 |none=>dsimp only;split<;>rfl
 |some a=>rfl
theorem Bg:EPp 54 qx:=by
 refine Ype fun _ H K h=>?_
 unfold qx at h
 split at h<;>try exact h.elim
 rename_i l le
 obtain⟨S,e,⟨rfl,rfl,hS,he⟩,hK⟩:=h
 refine⟨_,hK,?_⟩
 clear hK
 generalize hR:eN S e=R
 refine Yfw az (tCq mJ (tCq tg (tCq Dw tNq))) Tryz.func54 [.tmp 4] (nrq _) (T:=ay [(8,[[],[],[],[],[2],[],[4],[],[1,2,4,6]])]) (h:=fun hcl=>?_)
 have dn1:(!true)=false:=rfl
 have dn2:(!false)=true:=rfl
 refine T40 ?_
 refine⟨S,⟨rfl,hS.sl⟩,?_⟩
 rcases rh (q:=fun t:STable=>t.id==e.table) (l:=S.tables)with⟨b1,b2⟩|⟨i,t,b1,hil,b3,b2,_⟩
 ·unfold eN iW at hR
  rw[b2]at hR
  exact V90
 rw[Ci S e t b2]at hR
 rw[b1]
 have d:decide ((i:Int)<0)=false:=Xb
 have hg':=bf (f:=bc) (l:=S.tables) (k:=i) (x:=t) b3
 obtain⟨tl1,tl2⟩:=hS.tl t (List.mem_of_getElem? b3)
 simp only[bn,aF,bhq,go_sem,d,iNq,hg',bc,ybb,Bs]
 have hcH:((H.push (.cells [.slice .any 3 (S.fields.map cD),.slice .any 3 (S.headers.map gr),.slice .any 5 (S.states.map dY),.slice .any 5 (S.actions.map bu),.slice .any 8 (S.tables.map bc),.slice .any 2 (S.stages.map jh),.slice .any 6 (S.roles.map cG),.slice .any 6 (S.refs.map pj),.int .i64 S.maxBatch,.int .i64 S.budget])).push (.cells [.int .i64 e.table,.slice .any 8 (e.ms.map aP),.int .i64 e.prio,.int .i64 e.act,.slice .any 2 (e.args.map vv)])).Closed:=aa (aa hcl (ne S)) (qt e)
 refine T0 ?_
 refine aA (A:=Nat) (fun k=>[(2,.ptr H.nx 0),(3,.ptr (H.nx+1) 0),(20,.slice .any 1 (inL t.actions)),(21,.int .i64 (t.actions.length:Int)),(22,.int .i64 (k:Int))]) (fun _=>((H.push (.cells [.slice .any 3 (S.fields.map cD),.slice .any 3 (S.headers.map gr),.slice .any 5 (S.states.map dY),.slice .any 5 (S.actions.map bu),.slice .any 8 (S.tables.map bc),.slice .any 2 (S.stages.map jh),.slice .any 6 (S.roles.map cG),.slice .any 6 (S.refs.map pj),.int .i64 S.maxBatch,.int .i64 S.budget])).push (.cells [.int .i64 e.table,.slice .any 8 (e.ms.map aP),.int .i64 e.prio,.int .i64 e.act,.slice .any 2 (e.args.map vv)])))
  (fun k=>k≤t.actions.length∧(if(t.actions.drop k).contains e.act=true then NR S e else 6)=R) (fun k=>t.actions.length-k) 0 ⟨Nat.zero_le _,hR⟩ ?_ fun k hk=>?_
 ·refine⟨Xj,by repeat first|exact .refl _|refine .push ?_ _,hcH,?_,?_⟩
  ·simp[ltF,zle,znn,znf,bk jN,nt,nq]
   try omega
  ·exact V8
 clear hR
 obtain⟨hk,hR⟩:=hk
 refine T11 ?_
 refine aq (fun hc=>?_) (fun hc=>?_)
 ·have hk':k<t.actions.length:=sHc
  obtain⟨x,hx⟩:∃ x,x=t.actions[k]:=⟨_,rfl⟩
  have hd:t.actions.drop k=x::t.actions.drop (k+1):=by rw[hx];exact dcq hk'
  have hgx:=bf (f:=AV.int .i64) (l:=t.actions) (k:=k) (x:=x) (by rw[gQq hk',hx])
  have e5:=Yk5 k
  rw[hd,List.contains_cons]at hR
  by_cases hxe:x=e.act
  rotate_left
  ·have c1:(e.act==x)=false:=beq_eq_false_iff_ne.2 (Ne.symm hxe)
   have c2:(x !=e.act)=true:=by simp[hxe]
   rw[c1,Bool.false_or]at hR
   simp only[bn,aF,bhq,go_sem,inL,iNq,hgx,ybb,c2,e5]
   refine T0 ?_
   refine⟨k+1,⟨Xa,hR⟩,Xa,?_⟩
   refine⟨Xj,by repeat first|exact .refl _|refine .push ?_ _,hcH,?_,?_⟩
   ·simp[ltF,zle,znn,znf,bk jN,nt,show AV.lt H.nx (.slice .any 1 (t.actions.map (AV.int .i64))) from nq,show AV.lt (H.nx+1+1) (.slice .any 1 (t.actions.map (AV.int .i64))) from nq]
    try omega
   ·exact V8
  have c1:(e.act==x)=true:=by rw[hxe];simp
  have c2:(x !=e.act)=false:=by simp[hxe]
  rw[c1,Bool.true_or,if_pos rfl]at hR
  obtain⟨a,haf⟩:=tl2 x (by rw[hx];exact gMq hk')
  rw[hxe]at haf
  unfold NR at hR
  rw[haf]at hR
  dsimp only at hR
  simp only[bn,aF,bhq,go_sem,inL,iNq,hgx,ybb,c2,mF]
  refine T0 ?_
  refine⟨S,⟨rfl,hS.sl⟩,?_⟩
  unfold CW at haf
  rw[hxe]
  rcases rh (q:=fun a:SAction=>a.id==e.act) (l:=S.actions)with⟨q1,q2⟩|⟨j,a',q1,hjl,q3,q2,_⟩
  ·rw[q2]at haf;cases haf
  rw[q2]at haf
  cases haf
  rw[q1]
  have hga:=bf (f:=bu) (l:=S.actions) (k:=j) (x:=a) q3
  have hpl:=hS.pl a (List.mem_of_getElem? q3)
  by_cases hlen:e.args.length=a.params.length
  rotate_left
  ·rw[if_neg hlen]at hR
   subst hR
   have dl:((e.args.length:Int) !=(a.params.length:Int))=true:=Xd
   simp only[bn,aF,bhq,go_sem,iNq,hga,bu,ybb,dl]
   refine⟨Xa,.inr ⟨S,⟨rfl,hS.sl⟩,by rw[q1]⟩,?_⟩
   try simp only[bn,aF,bhq,go_sem,dl]
   exact Z0
  rw[if_pos hlen]at hR
  have dl:((e.args.length:Int) !=(a.params.length:Int))=false:=by simp[hlen]
  have hfl:Lq a.params e.args=wx a.params e.args:=by unfold Lq;rw[dtq hlen,Bool.true_and]
  simp only[bn,aF,bhq,go_sem,iNq,hga,bu,ybb,dl,sS]
  refine⟨Xa,.inr ⟨S,⟨rfl,hS.sl⟩,by rw[q1]⟩,a,e.args,⟨rfl,rfl,hpl,he.ar⟩,?_⟩
  rw[hfl]
  cases hfa:wx a.params e.args with
  |true=>
   rw[hfa,if_pos rfl]at hR
   subst hR
   exact V55
  |_=>
   rw[hfa,if_neg (Xc)]at hR
   subst hR
   exact V55
 ·have hk':k=t.actions.length:=sHc
  subst hk'
  rw[List.drop_length]at hR
  have hR6:R=6:=by rw[← hR];rfl
  subst hR6
  exact V61
structure SAll(S:Sch):Prop where
 ck:SChk S
 ac:SAct S
 ad:SAdm S
structure EAll(e:SEntry):Prop where
 ok:EOk e
 ar:EArg e
 ad:EAdm e
end Go.AL
