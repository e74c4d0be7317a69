/- Lemmas of the proof; no condition. -/
import Derived.Test.YtokjjhidigoodaaGreatS12b
import Derived.Test.YtokjjhidigoodaaGreatS11g
import Derived.Test.YtokjjhidigoodaaGreatS12f
set_option linter.all false
set_option maxRecDepth 10000
set_option maxHeartbeats 32000000
open List renaming length_cons → yaz, length_nil → yba, length_map → ybb, take_of_length_le → ybc, drop_append → ybd, take_append → ybe, drop_eq_nil_of_le → ybf, take_succ_cons → yaq, take_zero → yar, drop_succ_cons → yao, drop_zero → yap, map_nil → yaf
open Go Go.AL Go.Proofs
namespace Go.AL
def wm:List AV→AHeap→(AV→Prop)→Prop
 |[.slice _ 1 l,.int .i64 n],_,K=>∃ xs:List Int,(l=inL xs∧xs.length≤1000000)∧K (.int .i64 (ixP (fun x=>x==n) xs 0))
 |_,_,_=>False
theorem HK:EntOk Tryz.prog 153 (Ent.pure wm):=by
 refine Ype fun _ H K h=>?_
 unfold wm at h
 split at h
 rotate_left
 ·exact h.elim
 rename_i m l n
 obtain ⟨xs,⟨rfl,hl⟩,hK⟩:=h
 refine ⟨_,hK,?_⟩
 clear hK
 generalize hR:ixP (fun x:Int=>x==n) xs 0=R
 refine Yfv ax tNq Tryz.func153 [.tmp 4] fun hcl hlt=>?_
 have hm:AV.lt H.nx (.slice m 1 (inL xs)):=hlt _ (by simp)
 clear hlt
 simp only [go_sem,AC]
 refine az (A:=Nat) (fun k=>[(0,.slice m 1 (inL xs)),(1,.int .i64 n),(7,.int .i64 (xs.length:Int)),(8,.int .i64 (k:Int))]) (fun _=>H) (fun k=>k≤xs.length∧ixP (fun x:Int=>x==n) (xs.drop k) k=R) (fun k=>xs.length - k) 0 ⟨by omega,hR⟩ ?_ fun k hk=>?_
 ·refine ⟨nrq _,lRq _,hcl,?_,?_⟩
  ·simp [ltF,znb,hm]
  ·exact Y10
 clear hR
 obtain ⟨hk,hR⟩:=hk
 simp only [go_sem]
 refine au (fun hc=>?_) (fun hc=>?_)
 ·have hk':k<xs.length:=by simp at hc;omega
  obtain ⟨x,hx⟩:∃ x,x=xs[k]:=⟨_,rfl⟩
  have hd:xs.drop k=x::xs.drop (k+1):=by rw [hx];exact dcq hk'
  have hg:=bC (f:=AV.int .i64) (l:=xs) (k:=k) (x:=x) (by rw [gQq hk',hx])
  have e5:=Yk5 k
  rw [hd] at hR
  unfold ixP at hR
  simp only [go_sem,iNq,inL,hg,ybb]
  (repeat with_reducible refine Yq ?_)
  rw [show (n==x)=(x==n) from BEq.comm]
  refine au (fun hq=>?_) (fun hq=>?_)
  ·rw [if_pos hq] at hR
   subst hR
   exact Y47
  ·rw [if_neg (by rw [hq];decide)] at hR
   simp only [go_sem,e5]
   unfold inL at hm
   refine ⟨k+1,⟨by omega,hR⟩,by omega,nrq _,lRq _,hcl,?_,?_⟩
   ·simp [ltF,znb,hm]
   ·exact Y10
 ·have hk':k=xs.length:=by simp at hc;omega
  exact Y37
def C3:List AV→AHeap→(AV→Prop)→Prop
 |[.slice _ 1 l,.int .i64 n],_,K=>∃ xs:List Int,(l=inL xs∧xs.length≤1000000)∧K (.bool (xs.contains n))
 |_,_,_=>False
theorem Mi {xs:List Int} {n:Int}:decide (ixP (fun x=>x==n) xs 0 ≥ 0)=xs.contains n:=by
 have key:∀ (xs:List Int) (k:Nat),decide (0≤ixP (fun x=>x==n) xs k)=xs.contains n:=by
  intro xs
  induction xs with
  |nil=>intro k;rfl
  |cons x xs ih =>
   intro k
   unfold ixP
   rw [List.contains_cons]
   by_cases h:x=n
   ·subst h;simp
   ·rw [if_neg (by simp [h]),ih]
    have:(n==x)=false:=beq_eq_false_iff_ne.2 (Ne.symm h)
    rw [this,Bool.false_or]
 exact key xs 0
theorem Lv:EntOk Tryz.prog 76 (Ent.pure C3):=by
 refine Ype fun _ H K h=>?_
 unfold C3 at h
 split at h
 rotate_left
 ·exact h.elim
 rename_i m l n
 obtain ⟨xs,⟨rfl,hl⟩,hK⟩:=h
 refine ⟨_,hK,?_⟩
 clear hK
 generalize hR:xs.contains n=R
 rw [← Mi] at hR
 refine Yfv ax (tCq HK tNq) Tryz.func76 [.tmp 4] fun hcl hlt=>?_
 clear hlt
 simp only [go_sem,wm]
 refine ⟨xs,⟨rfl,hl⟩,?_⟩
 have hR':decide (0≤ixP (fun x=>x==n) xs 0)=R:=hR
 simp only [aM,go_sem,hR']
 exact Z0
def zV:List AV→AHeap→(AV→Prop)→Prop
 |[.agg [.int .u64 a,.int .u64 b],.int .i64 n],_,K=>isV a b∧K (.bool (decide (((bl (vOf a.toNat b.toNat):Nat):Int)≤n)))
 |_,_,_=>False
theorem Iv:EntOk Tryz.prog 155 (Ent.pure zV):=by
 refine Ype fun _ H K h=>?_
 unfold zV at h
 split at h
 rotate_left
 ·exact h.elim
 rename_i a b n
 obtain ⟨hv,hK⟩:=h
 refine ⟨_,hK,?_⟩
 clear hK
 refine Yfv ax (tCq LT tNq) Tryz.func155 [.tmp 4] fun hcl hlt=>?_
 clear hlt
 simp only [go_sem,CX]
 refine ⟨hv,?_⟩
 try exact Y99
def j7:List AV→AHeap→(AV→Prop)→Prop
 |[.int .i64 w,.int .i64 n],_,K=>K (vv (jm w n))
 |_,_,_=>False
theorem fA:EntOk Tryz.prog 150 (Ent.pure j7):=by
 refine Ype fun _ H K h=>?_
 unfold j7 at h
 split at h
 rotate_left
 ·exact h.elim
 rename_i w n
 refine ⟨_,h,?_⟩
 clear h
 refine Yfv ax (tCq tX (tCq xV tNq)) Tryz.func150 [.cell 4 48] fun hcl hlt=>?_
 clear hlt
 have hs:=sn w n
 have b3:=gV hs
 have u3:=dq hs
 have hcn:=jW w
 obtain ⟨c,hc0⟩:∃ c,ca w=c:=⟨_,rfl⟩
 rw [hc0] at hcn
 obtain ⟨s,hs1,hs2⟩:∃ s:Nat,IntKind.i64.wrap ((c:Int) - max 0 (min n (c:Int)))=(s:Int)∧(s:Int)=(c:Int) - max 0 (min n (c:Int)):=⟨((c:Int) - max 0 (min n (c:Int))).toNat,by rw [wrap_i64]<;>omega,by omega⟩
 simp only [go_sem,sJ,hc0,hs1]
 refine eJ (A:=Nat) (fun i=>[(6,.int .i64 (i:Int)),(5,.ptr (H.nx+1) 0),(4,.ptr H.nx 0),(0,.int .i64 (c:Int))])
  (fun i=>(H.push (.cells [.int .u64 0,.int .u64 0])).push (.cells (bfn fun j=>decide (s≤j∧j<i)))) (fun i=>s≤i∧i≤c) (fun i=>c - i) s (by omega) ?_ fun i hi=>?_
 ·have e:(bfn fun j=>decide (s≤j∧j<s))=List.replicate 128 (.bool false):=by rw [ET];exact mP fun j _=>by simp
  exact Y70
 simp only [go_sem]
 refine au (fun hc=>?_) (fun hc=>?_)
 ·have hi1:i<c:=by simp at hc;omega
  have e0:IntKind.i64.wrap ((i:Int)+1)=((i+1:Nat):Int):=by rw [wrap_i64]<;>omega
  have st:(bfn fun j=>decide (s≤j∧j<i)).set i (.bool true)=bfn fun j=>decide (s≤j∧j<i+1):=z4 fun j hj=>by
   by_cases e:j=i
   ·subst e;simp;omega
   ·rw [if_neg e,decide_eq_decide];omega
  exact Y102
 ·have hi1:i=c:=by simp at hc;omega
  subst hi1
  have e:(bfn fun j=>decide (s≤j∧j<i))=bits (jm w n):=Cy fun j _=>by
   rw [Gp,hc0,decide_eq_decide];omega
  have et:List.take 128 (bits (jm w n))=bits (jm w n):=ybc (by rw [bJ];omega)
  exact Y98
def ef:=p2V fun x y=>.bool (decide (x &&& y=x))
theorem dM:EntOk Tryz.prog 149 (Ent.pure ef):=by
 unfold ef
 refine Ype fun _ H K h=>?_
 unfold p2V at h
 split at h
 rotate_left
 ·exact h.elim
 rename_i a b c d
 obtain ⟨⟨i1,i2⟩,hK⟩:=h
 refine ⟨_,hK,?_⟩
 clear hK
 obtain ⟨x,hx,rfl,rfl,e⟩:=pF i1
 obtain ⟨y,hy,rfl,rfl,e2⟩:=pF i2
 rw [e,e2]
 clear e e2
 refine ACalls.fW ax (tCq Lr tNq) Tryz.func149 [.tmp 4] (nrq _) (T:=av [(1,[[],[],[0,1]])]) (h:=fun hcl hlt=>?_)
 clear hlt
 simp only [go_sem,AB,p2V,vv,iNq,bD,cF,cE,Bool.bne_false,fo,eu]
 refine ⟨⟨i1,i2⟩,?_⟩
 try simp only [aM,go_sem,AB,p2V,vv,iNq,bD,cF,cE,Bool.bne_false,fo,eu]
 exact Z0
def AO:List AV→AHeap→(AV→Prop)→Prop
 |[.agg l,.int .i64 k],_,K=>∃ m:SMatch,l=bE m∧K (.int .i64 (if j0 m k=true then 0 else 13))
 |_,_,_=>False
theorem Kl:EntOk Tryz.prog 72 (Ent.pure AO):=by
 refine Ype fun _ H K h=>?_
 unfold AO at h
 split at h
 rotate_left
 ·exact h.elim
 rename_i l k
 obtain ⟨m,rfl,hK⟩:=h
 refine ⟨_,hK,?_⟩
 clear hK
 generalize hR:(if j0 m k=true then (0:Int) else 13)=R
 rw [pQ]
 have bt1:(true != true)=false:=rfl
 have bf1:(false != true)=true:=rfl
 cases hp:m.present with
 |false =>
  unfold j0 at hR
  rw [if_pos hp] at hR
  have hT:teq Tryz.prog 9 114 (.agg [.bool false,.int .u64 ((m.value/2^64:Nat):Int),.int .u64 ((m.value % 2^64:Nat):Int),.int .u64 ((m.mask/2^64:Nat):Int),.int .u64 ((m.mask % 2^64:Nat):Int),.int .i64 m.pfx,.int .u64 ((m.high/2^64:Nat):Int),.int .u64 ((m.high % 2^64:Nat):Int)]) (.agg [.bool false,.int .u64 0,.int .u64 0,.int .u64 0,.int .u64 0,.int .i64 0,.int .u64 0,.int .u64 0])=some (decide (m=cu)):=by
   have:=iT (m:=m) (n:=cu)
   rw [hp] at this
   exact this
  have hk1:(k==1)=!decide (k≠1):=by by_cases h:k=1<;>simp [h]
  generalize decide (m=cu)=b at *
  generalize decide (k≠1)=c at *
  refine Yfv ax tNq Tryz.func72 [.tmp 4] fun hcl hlt=>?_
  clear hlt
  subst hR
  cases b<;>cases c<;>(simp only [go_sem,fZ,hp,hk1,hT,gZ,Bool.true_and,Bool.false_and,bt1,bf1];try simp (disch:=first|exact Zd|omega) [↓zmk,beq,ybc,ybd,ybe,af,wk,wk2,wk1,wkM,wkL,aj,ybf,hcl])
 |true =>
  have hf:j0 m k=decide (m=gr m k):=by
   unfold j0
   rw [if_neg (by rw [hp];simp)]
  rw [hf] at hR
  clear hf
  rcases (by omega:k=2∨k=3∨k=4∨(k≠2∧k≠3∧k≠4)) with hk|hk|hk|⟨hk2,hk3,hk4⟩
  ·skip
   have c2:(k==2)=true:=by rw [hk];rfl
   have c3:(k==3)=false:=by rw [hk];rfl
   have c4:(k==4)=false:=by rw [hk];rfl
   have hu:gr m k=⟨true,m.value,0,m.pfx,0⟩:=by unfold gr;simp [hk]
   have hT:teq Tryz.prog 9 114 (.agg [.bool true,.int .u64 ((m.value/2^64:Nat):Int),.int .u64 ((m.value % 2^64:Nat):Int),.int .u64 ((m.mask/2^64:Nat):Int),.int .u64 ((m.mask % 2^64:Nat):Int),.int .i64 m.pfx,.int .u64 ((m.high/2^64:Nat):Int),.int .u64 ((m.high % 2^64:Nat):Int)]) (.agg [.bool true,.int .u64 ((m.value/2^64:Nat):Int),.int .u64 ((m.value % 2^64:Nat):Int),.int .u64 0,.int .u64 0,.int .i64 m.pfx,.int .u64 0,.int .u64 0])=some (decide (m=gr m k)):=by
    exact Y58
   exact Y23
  ·skip
   have c2:(k==2)=false:=by rw [hk];rfl
   have c3:(k==3)=true:=by rw [hk];rfl
   have c4:(k==4)=false:=by rw [hk];rfl
   have hu:gr m k=⟨true,m.value,m.mask,0,0⟩:=by unfold gr;simp [hk]
   have hT:teq Tryz.prog 9 114 (.agg [.bool true,.int .u64 ((m.value/2^64:Nat):Int),.int .u64 ((m.value % 2^64:Nat):Int),.int .u64 ((m.mask/2^64:Nat):Int),.int .u64 ((m.mask % 2^64:Nat):Int),.int .i64 m.pfx,.int .u64 ((m.high/2^64:Nat):Int),.int .u64 ((m.high % 2^64:Nat):Int)]) (.agg [.bool true,.int .u64 ((m.value/2^64:Nat):Int),.int .u64 ((m.value % 2^64:Nat):Int),.int .u64 ((m.mask/2^64:Nat):Int),.int .u64 ((m.mask % 2^64:Nat):Int),.int .i64 0,.int .u64 0,.int .u64 0])=some (decide (m=gr m k)):=by
    exact Y58
   exact Y23
  ·skip
   have c2:(k==2)=false:=by rw [hk];rfl
   have c3:(k==3)=false:=by rw [hk];rfl
   have c4:(k==4)=true:=by rw [hk];rfl
   have hu:gr m k=⟨true,m.value,0,0,m.high⟩:=by unfold gr;simp [hk]
   have hT:teq Tryz.prog 9 114 (.agg [.bool true,.int .u64 ((m.value/2^64:Nat):Int),.int .u64 ((m.value % 2^64:Nat):Int),.int .u64 ((m.mask/2^64:Nat):Int),.int .u64 ((m.mask % 2^64:Nat):Int),.int .i64 m.pfx,.int .u64 ((m.high/2^64:Nat):Int),.int .u64 ((m.high % 2^64:Nat):Int)]) (.agg [.bool true,.int .u64 ((m.value/2^64:Nat):Int),.int .u64 ((m.value % 2^64:Nat):Int),.int .u64 0,.int .u64 0,.int .i64 0,.int .u64 ((m.high/2^64:Nat):Int),.int .u64 ((m.high % 2^64:Nat):Int)])=some (decide (m=gr m k)):=by
    exact Y58
   exact Y23
  ·skip
   have c2:(k==2)=false:=by simp [hk2]
   have c3:(k==3)=false:=by simp [hk3]
   have c4:(k==4)=false:=by simp [hk4]
   have hu:gr m k=⟨true,m.value,0,0,0⟩:=by unfold gr;simp [hk2,hk3,hk4]
   have hT:teq Tryz.prog 9 114 (.agg [.bool true,.int .u64 ((m.value/2^64:Nat):Int),.int .u64 ((m.value % 2^64:Nat):Int),.int .u64 ((m.mask/2^64:Nat):Int),.int .u64 ((m.mask % 2^64:Nat):Int),.int .i64 m.pfx,.int .u64 ((m.high/2^64:Nat):Int),.int .u64 ((m.high % 2^64:Nat):Int)]) (.agg [.bool true,.int .u64 ((m.value/2^64:Nat):Int),.int .u64 ((m.value % 2^64:Nat):Int),.int .u64 0,.int .u64 0,.int .i64 0,.int .u64 0,.int .u64 0])=some (decide (m=gr m k)):=by
    exact Y58
   exact Y23
def wD:List AV→AHeap→(AV→Prop)→Prop
 |[.agg l,.int .i64 k,.int .i64 w],_,K=>∃ m:SMatch,(l=bE m∧MOk m∧0≤w)∧K (.bool (!m.present||iM m k w))
 |_,_,_=>False
theorem Aa {x:Nat} {w:Int} (h:x<2^128) (hw:0≤w):decide (x &&& eT w=x)=decide (((bl x:Nat):Int)≤w):=by
 rw [decide_eq_decide]
 unfold eT
 rw [Nat.and_two_pow_sub_one_eq_mod]
 have h1:x % 2^ca w=x↔x<2^ca w:=⟨fun e=>by
  have:=Nat.mod_lt x (Nat.two_pow_pos (ca w));omega,fun e=>Nat.mod_eq_of_lt e⟩
 rw [h1,← bl_le]
 have h2:bl x≤128:=bl_le.2 h
 unfold ca
 omega
theorem Gf:EntOk Tryz.prog 73 (Ent.pure wD):=by
 refine Ype fun _ H K h=>?_
 unfold wD at h
 split at h
 rotate_left
 ·exact h.elim
 rename_i l k w
 obtain ⟨m,⟨rfl,⟨hv,hk,hh⟩,hw⟩,hK⟩:=h
 refine ⟨_,hK,?_⟩
 clear hK
 rw [pQ]
 obtain ⟨pr,v,mk,pf,hi⟩:=m
 dsimp only at hv hk hh
 dsimp only
 unfold iM
 dsimp only
 have i2:=e9 hv
 have i3:=e9 hk
 have i4:=e9 hh
 have hL:=sn w pf
 have i5:=e9 hL
 have hO:=ka w
 have i6:=e9 hO
 have z2:=uT hv
 have z3:=uT hk
 rw [Bool.and_true] at z2 z3
 have bt1:(true != true)=false:=rfl
 have bf1:(false != true)=true:=rfl
 have w1:=Aa hv hw
 have w2:=Aa hk hw
 have w3:=Aa hh hw
 cases pr with
 |false =>
  refine ACalls.fW ax (tCq dW (tCq dM (tCq fA (tCq c8 tNq)))) Tryz.func73 [.tmp 6] (nrq _) (T:=av [(8,[[],[],[],[],[],[],[],[],[],[],[],[],[],[],[],[1,5,14],[1,5,11,14,15]])]) (h:=fun hcl hlt=>?_)
  clear hlt
  simp only [go_sem,fZ,cH,vv,bt1,bf1]
  try simp (disch:=first|exact Zd|omega) [↓zmk,beq,ybc,ybd,ybe,af,wk,wk2,wk1,wkM,wkL,aj,ybf,hcl]
 |true =>
 rw [show (!true)=false from rfl,Bool.false_or]
 by_cases b1:((bl v:Nat):Int)≤w
 rotate_left
 ·rw [if_neg (fun h=>b1 h.1)]
  have d1:decide (((bl v:Nat):Int)≤w)=false:=dfq b1
  refine ACalls.fW ax (tCq dW (tCq dM (tCq fA (tCq c8 tNq)))) Tryz.func73 [.tmp 6] (nrq _) (T:=av [(8,[[],[],[],[],[],[],[],[],[],[],[],[],[],[],[],[1,5,14],[1,5,11,14,15]])]) (h:=fun hcl hlt=>?_)
  clear hlt
  simp only [go_sem,fZ,cH,ef,p2V,vv,i2,i3,i4,i5,i6,w1,w2,w3,bt1,bf1,iNq,bD,d1]
  (repeat with_reducible refine Yq ?_)
  exact Z0
 have d1:decide (((bl v:Nat):Int)≤w)=true:=dtq b1
 by_cases b2:((bl mk:Nat):Int)≤w
 rotate_left
 ·rw [if_neg (fun h=>b2 h.2.1)]
  have d2:decide (((bl mk:Nat):Int)≤w)=false:=dfq b2
  refine ACalls.fW ax (tCq dW (tCq dM (tCq fA (tCq c8 tNq)))) Tryz.func73 [.tmp 6] (nrq _) (T:=av [(8,[[],[],[],[],[],[],[],[],[],[],[],[],[],[],[],[1,5,14],[1,5,11,14,15]])]) (h:=fun hcl hlt=>?_)
  clear hlt
  simp only [go_sem,fZ,cH,ef,p2V,vv,i2,i3,i4,i5,i6,w1,w2,w3,bt1,bf1,iNq,bD,d1,d2]
  (repeat with_reducible refine Yq ?_)
  exact Z0
 have d2:decide (((bl mk:Nat):Int)≤w)=true:=dtq b2
 by_cases b3:((bl hi:Nat):Int)≤w
 rotate_left
 ·rw [if_neg (fun h=>b3 h.2.2)]
  have d3:decide (((bl hi:Nat):Int)≤w)=false:=dfq b3
  refine ACalls.fW ax (tCq dW (tCq dM (tCq fA (tCq c8 tNq)))) Tryz.func73 [.tmp 6] (nrq _) (T:=av [(8,[[],[],[],[],[],[],[],[],[],[],[],[],[],[],[],[1,5,14],[1,5,11,14,15]])]) (h:=fun hcl hlt=>?_)
  clear hlt
  simp only [go_sem,fZ,cH,ef,p2V,vv,i2,i3,i4,i5,i6,w1,w2,w3,bt1,bf1,iNq,bD,d1,d2,d3]
  (repeat with_reducible refine Yq ?_)
  exact Z0
 have d3:decide (((bl hi:Nat):Int)≤w)=true:=dtq b3
 rw [if_pos ⟨b1,b2,b3⟩]
 by_cases k2:k=2
 ·subst k2
  rw [if_pos rfl]
  by_cases p1:pf ≥ 1
  rotate_left
  ·rw [dfq (fun h=>p1 h.1)]
   have g1:decide (pf ≥ 1)=false:=dfq p1
   refine ACalls.fW ax (tCq dW (tCq dM (tCq fA (tCq c8 tNq)))) Tryz.func73 [.tmp 6] (nrq _) (T:=av [(8,[[],[],[],[],[],[],[],[],[],[],[],[],[],[],[],[1,5,14],[1,5,11,14,15]])]) (h:=fun hcl hlt=>?_)
   clear hlt
   simp only [go_sem,fZ,cH,ef,p2V,vv,i2,i3,i4,i5,i6,w1,w2,w3,bt1,bf1,iNq,bD,d1,d2,d3,beq_self_eq_true,g1]
   (repeat with_reducible refine Yq ?_)
   exact Z0
  have g1:decide (pf ≥ 1)=true:=dtq p1
  by_cases p2:pf≤w
  rotate_left
  ·rw [dfq (fun h=>p2 h.2.1)]
   have g2:decide (pf≤w)=false:=dfq p2
   refine ACalls.fW ax (tCq dW (tCq dM (tCq fA (tCq c8 tNq)))) Tryz.func73 [.tmp 6] (nrq _) (T:=av [(8,[[],[],[],[],[],[],[],[],[],[],[],[],[],[],[],[1,5,14],[1,5,11,14,15]])]) (h:=fun hcl hlt=>?_)
   clear hlt
   simp only [go_sem,fZ,cH,ef,p2V,vv,i2,i3,i4,i5,i6,w1,w2,w3,bt1,bf1,iNq,bD,d1,d2,d3,beq_self_eq_true,g1,g2]
   (repeat with_reducible refine Yq ?_)
   exact Z0
  have g2:decide (pf≤w)=true:=dtq p2
  have g3:decide (pf ≥ 1∧pf≤w∧v &&& jm w pf=v)=decide (v &&& jm w pf=v):=by rw [decide_eq_decide];exact ⟨fun h=>h.2.2,fun h=>⟨p1,p2,h⟩⟩
  rw [g3]
  refine ACalls.fW ax (tCq dW (tCq dM (tCq fA (tCq c8 tNq)))) Tryz.func73 [.tmp 6] (nrq _) (T:=av [(8,[[],[],[],[],[],[],[],[],[],[],[],[],[],[],[],[1,5,14],[1,5,11,14,15]])]) (h:=fun hcl hlt=>?_)
  clear hlt
  simp only [go_sem,fZ,cH,ef,p2V,vv,i2,i3,i4,i5,i6,w1,w2,w3,bt1,bf1,iNq,bD,d1,d2,d3,beq_self_eq_true,g1,g2,j7,fG,cF,cE,Bool.bne_false,fo,eu]
  (repeat with_reducible refine Yq ?_)
  exact Z0
 rw [if_neg k2]
 have n2:(k==2)=false:=by simpa using k2
 by_cases k3:k=3
 ·subst k3
  rw [if_pos rfl]
  have c2:((3:Int)==2)=false:=rfl
  by_cases p1:mk=0
  ·rw [dfq (fun h=>h.1 p1)]
   have g1:decide (mk=0)=true:=dtq p1
   exact Y43
  have g1:decide (mk=0)=false:=dfq p1
  have g3:decide (mk≠0∧v &&& mk=v)=decide (v &&& mk=v):=by rw [decide_eq_decide];exact ⟨fun h=>h.2,fun h=>⟨p1,h⟩⟩
  rw [g3]
  exact Y43
 rw [if_neg k3]
 have n3:(k==3)=false:=by simpa using k3
 by_cases k4:k=4
 ·subst k4
  rw [if_pos rfl]
  have c2:((4:Int)==2)=false:=rfl
  have c3:((4:Int)==3)=false:=rfl
  by_cases p1:v=0
  ·have g1:decide (v=0)=true:=dtq p1
   have g3:decide (v≤hi∧¬ (v=0∧hi=eT w))=(decide (v≤hi)&&!decide (hi=eT w)):=by
    rw [Bool.eq_iff_iff];simp [p1]
   rw [g3]
   cases q:decide (v≤hi)
   ·rw [Bool.false_and]
    exact Y13
   ·rw [Bool.true_and]
    exact Y13
  ·have g1:decide (v=0)=false:=dfq p1
   have g3:decide (v≤hi∧¬ (v=0∧hi=eT w))=decide (v≤hi):=by
    exact Y172
   rw [g3]
   cases q:decide (v≤hi)
   ·skip
    exact Y13
   ·skip
    exact Y13
 rw [if_neg k4]
 have n4:(k==4)=false:=by simpa using k4
 refine ACalls.fW ax (tCq dW (tCq dM (tCq fA (tCq c8 tNq)))) Tryz.func73 [.tmp 6] (nrq _) (T:=av [(8,[[],[],[],[],[],[],[],[],[],[],[],[],[],[],[],[1,5,14],[1,5,11,14,15]])]) (h:=fun hcl hlt=>?_)
 clear hlt
 simp only [go_sem,fZ,cH,ef,p2V,vv,i2,i3,i4,i5,i6,w1,w2,w3,bt1,bf1,iNq,bD,d1,d2,d3,beq_self_eq_true,cF,cE,Bool.bne_false,z2,z3,j7,fG,fo,eu,fm,n2,n3,n4]
 (repeat with_reducible refine Yq ?_)
 exact Z0
def qR:SKey→Bool:=fun k=>k.kind==3||k.kind==4
def Ea:List AV→AHeap→(AV→Prop)→Prop
 |[.agg l],_,K=>∃ t:STable,(aV t=.agg l∧t.keys.length≤1000000)∧K (.bool (nf t))
 |_,_,_=>False
theorem Me:EntOk Tryz.prog 75 (Ent.pure Ea):=by
 refine Ype fun _ H K h=>?_
 unfold Ea at h
 split at h
 rotate_left
 ·exact h.elim
 rename_i l
 obtain ⟨t,⟨ht,hl⟩,hK⟩:=h
 refine ⟨_,hK,?_⟩
 clear hK
 have hr:nf t=decide (0≤ixP qR t.keys 0):=rfl
 rw [hr]
 unfold aV at ht
 cases ht
 generalize t.keys=ks at *
 generalize hR:ixP qR ks 0=R
 refine Yfv ax tNq Tryz.func75 [.tmp 2] fun hcl hlt=>?_
 have hx:=AV.lt_mono (Nat.le_succ H.nx) _ (hlt (.agg [.int .i64 t.id,.str t.name,.slice .any 3 (ks.map bL),.slice .any 1 (inL t.actions),.int .i64 t.dflt,.slice .any 2 (t.dargs.map vv),.int .i64 t.size,.str t.restr]) (by simp))
 have hm:∀ n',H.nx≤n'→AV.lt n' (.slice .any 3 (ks.map bL)):=fun n' hn=>by
  have h0:=AV.lt_mono hn _ (hlt (.agg [.int .i64 t.id,.str t.name,.slice .any 3 (ks.map bL),.slice .any 1 (inL t.actions),.int .i64 t.dflt,.slice .any 2 (t.dargs.map vv),.int .i64 t.size,.str t.restr]) (by simp))
  rw [znn] at h0;exact h0.2.2.1
 simp only [znn] at hx
 clear hlt
 simp only [go_sem,ybb]
 refine az (A:=Nat) (fun k=>[(6,.slice .any 3 (ks.map bL)),(7,.int .i64 (ks.length:Int)),(8,.int .i64 (k:Int))]) (fun _=>H) (fun k=>k≤ks.length∧ixP qR (ks.drop k) k=R) (fun k=>ks.length - k) 0 ⟨by omega,hR⟩ ?_ fun k hk=>?_
 ·refine ⟨by (try simp only [zkm,zkr]);omega,by repeat first|exact .refl _|refine .push ?_ _,hcl,?_,?_⟩
  ·simp [ltF,znb,hm]
  ·exact Y10
 clear hR
 obtain ⟨hk,hR⟩:=hk
 simp only [go_sem]
 refine au (fun hc=>?_) (fun hc=>?_)
 ·have hk':k<ks.length:=by simp at hc;omega
  obtain ⟨x,hx1⟩:∃ x,x=ks[k]:=⟨_,rfl⟩
  have hd:ks.drop k=x::ks.drop (k+1):=by rw [hx1];exact dcq hk'
  have hg:=bC (f:=bL) (l:=ks) (k:=k) (x:=x) (by rw [gQq hk',hx1])
  have e5:=Yk5 k
  rw [hd] at hR
  unfold ixP at hR
  have hq:qR x=(x.kind==3||x.kind==4):=rfl
  cases q3:(x.kind==3) with
  |true =>
   rw [hq,q3,Bool.true_or,if_pos rfl] at hR
   have dR:decide (0≤R)=true:=dtq (by omega)
   simp only [go_sem,iNq,bL,hg,ybb,q3]
   (repeat with_reducible refine Yq ?_)
   rw [dR]
   exact Z0
  |false =>
   cases q4:(x.kind==4) with
   |true =>
    rw [hq,q3,q4,Bool.or_true,if_pos rfl] at hR
    have dR:decide (0≤R)=true:=dtq (by omega)
    simp only [go_sem,iNq,bL,hg,ybb,q3,q4]
    (repeat with_reducible refine Yq ?_)
    rw [dR]
    exact Z0
   |false =>
    rw [hq,q3,q4,Bool.or_false,if_neg (by decide)] at hR
    simp only [go_sem,iNq,bL,hg,ybb,q3,q4,e5]
    refine ⟨by omega,k+1,⟨by omega,hR⟩,by omega,?_⟩
    refine ⟨by (try simp only [zkm,zkr]);omega,by repeat first|exact .refl _|refine .push ?_ _,hcl,?_,?_⟩
    ·simp [ltF,znb,hm]
    ·exact Y10
 ·have hk':k=ks.length:=by simp at hc;omega
  exact Y37
structure SChk (S:Sch):Prop where
 sl:SLen S
 kl:∀ t∈S.tables,t.keys.length≤1000
 kf:∀ t∈S.tables,∀ k∈t.keys,CR S k.field∧0≤cR S k.field
theorem Ee {n:Nat} (S:Sch):ltL n [.slice .any 3 (S.fields.map bX),.slice .any 3 (S.headers.map dX),.slice .any 5 (S.states.map cS),.slice .any 5 (S.actions.map a8),.slice .any 8 (S.tables.map aV),.slice .any 2 (S.stages.map jn),.slice .any 6 (S.roles.map fp),.slice .any 6 (S.refs.map ph),.int .i64 S.maxBatch,.int .i64 S.budget]:=by
 have:=@tf n S
 unfold rT bv at this
 rwa [znn] at this
theorem Nx {n:Nat} (t:STable):ltL n [.int .i64 t.id,.str t.name,.slice .any 3 (t.keys.map bL),.slice .any 1 (inL t.actions),.int .i64 t.dflt,.slice .any 2 (t.dargs.map vv),.int .i64 t.size,.str t.restr]:=by
 have:=cZ (n:=n) t
 unfold aV at this
 rwa [znn] at this
theorem JF {n:Nat} (e:SEntry):ltL n [.int .i64 e.table,.slice .any 8 (e.ms.map aQ),.int .i64 e.prio,.int .i64 e.act,.slice .any 2 (e.args.map vv)]:=ltL_iff.2 fun j hj=>AV.lt_cells (gE e) j hj
def l6:List AV→AHeap→(AV→Prop)→Prop
 |[.agg l,.agg le],_,K=>∃ (S:Sch) (e:SEntry),(l=bv S∧le=bG e∧SChk S∧EOk e)∧K (.int .i64 (fY S e))
 |_,_,_=>False
theorem rR:EntOk Tryz.prog 22 (Ent.pure l6):=by
 refine Ype fun _ H K h=>?_
 unfold l6 at h
 split at h
 rotate_left
 ·exact h.elim
 rename_i l le
 obtain ⟨S,e,⟨rfl,rfl,hS,he⟩,hK⟩:=h
 refine ⟨_,hK,?_⟩
 clear hK
 generalize hR:fY S e=R
 unfold fY tC at hR
 refine ACalls.fW ax (tCq oI (tCq Kl (tCq Gf (tCq BS (tCq Me tNq))))) Tryz.func22 [.tmp 4] (nrq _) (T:=av [(10,[[],[],[],[],[],[],[],[1,4,6]]),(13,[[],[],[],[],[],[],[],[],[],[],[7,8],[1,4,6,7,8,10]]),(16,[[],[0],[],[],[],[],[],[],[1],[],[],[],[],[1]])]) (h:=fun hcl hlt=>?_)
 clear hlt
 simp only [bp,aM,bhq,Nat.reduceMod,Nat.reduceDiv,aD,aE,aF,bf,aG,bc,aZ,bb,a9,yaq,yar,yao,yap,go_sem,bv,bG,lE]
 refine ⟨S,⟨rfl,hS.sl⟩,?_⟩
 obtain ⟨c1,c2⟩:=nD (q:=fun t:STable=>t.id==e.table) (l:=S.tables) (k:=0)
 rcases c2 with b1|c2
 ·rw [kq b1] at hR
  dsimp only at hR
  subst hR
  rw [b1]
  have d:decide ((-1:Int)<0)=true:=rfl
  exact Y38
 obtain ⟨i,hi⟩:∃ i:Nat,ixP (fun t:STable=>t.id==e.table) S.tables 0=((0+i:Nat):Int):=⟨(ixP (fun t:STable=>t.id==e.table) S.tables 0).toNat,by omega⟩
 obtain ⟨t,h1,h2,h3⟩:=kT hi
 rw [h3] at hR
 dsimp only at hR
 rw [nzq] at hi
 rw [hi]
 have hil:i<S.tables.length:=by omega
 have d:decide ((i:Int)<0)=false:=by simp
 have hg':=bC (f:=aV) (l:=S.tables) (k:=i) (x:=t) h1
 have htm:t∈S.tables:=List.mem_of_getElem? h1
 have hkl:=hS.kl t htm
 have hkf:=hS.kf t htm
 have hel:=he.ml
 by_cases hlen:e.ms.length=t.keys.length
 rotate_left
 ·rw [if_neg hlen] at hR
  subst hR
  have dl:((e.ms.length:Int) != (t.keys.length:Int))=true:=by simp;omega
  simp only [bp,aM,bhq,Nat.reduceMod,Nat.reduceDiv,aD,aE,aF,bf,aG,bc,aZ,bb,a9,yaq,yar,yao,yap,go_sem,d,iNq,hg',aV,ybb,dl]
  (repeat with_reducible refine Yq ?_)
  exact Z0
 rw [if_pos hlen] at hR
 have dl:((e.ms.length:Int) != (t.keys.length:Int))=false:=by simp [hlen]
 simp only [bp,aM,bhq,Nat.reduceMod,Nat.reduceDiv,aD,aE,aF,bf,aG,bc,aZ,bb,a9,yaq,yar,yao,yap,go_sem,d,iNq,hg',aV,ybb,dl]
 (repeat with_reducible refine Yq ?_)
 obtain ⟨Q,hQ⟩:∃ Q,eQ S e.ms t.keys=Q:=⟨_,rfl⟩
 rw [hQ] at hR
 have hcH:(((H.push (.cells [.slice .any 3 (S.fields.map bX),.slice .any 3 (S.headers.map dX),.slice .any 5 (S.states.map cS),.slice .any 5 (S.actions.map a8),.slice .any 8 (S.tables.map aV),.slice .any 2 (S.stages.map jn),.slice .any 6 (S.roles.map fp),.slice .any 6 (S.refs.map ph),.int .i64 S.maxBatch,.int .i64 S.budget])).push (.cells [.int .i64 e.table,.slice .any 8 (e.ms.map aQ),.int .i64 e.prio,.int .i64 e.act,.slice .any 2 (e.args.map vv)])).push (.cells [.int .i64 t.id,.str t.name,.slice .any 3 (t.keys.map bL),.slice .any 1 (inL t.actions),.int .i64 t.dflt,.slice .any 2 (t.dargs.map vv),.int .i64 t.size,.str t.restr])).Closed:=ae (ae (ae hcl (Ee S)) (JF e)) (Nx t)
 have hmk:∀ n',AV.lt n' (.slice .any 3 (t.keys.map bL)):=fun n'=>by
  have:=cZ (n:=n') t
  unfold aV at this
  rw [znn] at this
  exact this.2.2.1
 refine az (A:=Nat) (fun k=>[(2,.ptr H.nx 0),(3,.ptr (H.nx+1) 0),(6,.ptr (H.nx+1+1) 0),(29,.slice .any 3 (t.keys.map bL)),(30,.int .i64 (t.keys.length:Int)),(31,.int .i64 (k:Int))]) (fun _=>(((H.push (.cells [.slice .any 3 (S.fields.map bX),.slice .any 3 (S.headers.map dX),.slice .any 5 (S.states.map cS),.slice .any 5 (S.actions.map a8),.slice .any 8 (S.tables.map aV),.slice .any 2 (S.stages.map jn),.slice .any 6 (S.roles.map fp),.slice .any 6 (S.refs.map ph),.int .i64 S.maxBatch,.int .i64 S.budget])).push (.cells [.int .i64 e.table,.slice .any 8 (e.ms.map aQ),.int .i64 e.prio,.int .i64 e.act,.slice .any 2 (e.args.map vv)])).push (.cells [.int .i64 t.id,.str t.name,.slice .any 3 (t.keys.map bL),.slice .any 1 (inL t.actions),.int .i64 t.dflt,.slice .any 2 (t.dargs.map vv),.int .i64 t.size,.str t.restr])))
  (fun k=>k≤t.keys.length∧eQ S (e.ms.drop k) (t.keys.drop k)=Q) (fun k=>t.keys.length - k) 0 ⟨Nat.zero_le _,hQ⟩ ?_ fun k hk=>?_
 ·refine ⟨by (try simp only [zkm,zkr,zla]);omega,by repeat first|exact .refl _|refine .push ?_ _,hcH,?_,?_⟩
  ·simp [ltF,zla,znj,znb,hmk]
   try omega
  ·exact Y10
 clear hQ
 obtain ⟨hk,hQ⟩:=hk
 simp only [bp,aM,bhq,Nat.reduceMod,Nat.reduceDiv,aD,aE,aF,bf,aG,bc,aZ,bb,a9,yaq,yar,yao,yap,go_sem]
 refine au (fun hc=>?_) (fun hc=>?_)
 ·have hk':k<t.keys.length:=by simp at hc;omega
  have hkm:k<e.ms.length:=by omega
  obtain ⟨x,hx⟩:∃ x,x=t.keys[k]:=⟨_,rfl⟩
  obtain ⟨m,hm⟩:∃ m,m=e.ms[k]:=⟨_,rfl⟩
  have hd:t.keys.drop k=x::t.keys.drop (k+1):=by rw [hx];exact dcq hk'
  have hdm:e.ms.drop k=m::e.ms.drop (k+1):=by rw [hm];exact dcq hkm
  have hgx:=bC (f:=bL) (l:=t.keys) (k:=k) (x:=x) (by rw [gQq hk',hx])
  have hgm:=bC (f:=aQ) (l:=e.ms) (k:=k) (x:=m) (by rw [gQq hkm,hm])
  have hxk:t.keys[k]?=some x:=by rw [gQq hk',hx]
  obtain ⟨kf1,kf2⟩:=hkf x (by rw [hx];exact gMq hk')
  have mo:=he.mo m (by rw [hm];exact gMq hkm)
  have e5:=Yk5 k
  rw [hd,hdm] at hQ
  unfold eQ at hQ
  simp only [bp,aM,bhq,Nat.reduceMod,Nat.reduceDiv,aD,aE,aF,bf,aG,bc,aZ,bb,a9,yaq,yar,yao,yap,go_sem,iNq,hgx,hgm,bL,aQ,ybb,AO]
  have h8:(8≤(bE m).length)=True:=eq_true (nrq 8)
  refine ⟨by omega,by omega,of_eq_true h8,m,rfl,?_⟩
  cases hf:j0 m x.kind with
  |false =>
   rw [hf,if_pos rfl] at hQ
   subst hQ
   rw [if_neg (by decide)] at hR
   subst hR
   have d1:((if false=true then (0:Int) else 13) != 0)=true:=rfl
   have d2:(if false=true then (0:Int) else 13)=13:=rfl
   have d3:((13:Int) != 0)=true:=rfl
   simp only [d2,d3]
   exact Y66
  |true =>
  rw [hf,if_neg (by decide)] at hQ
  have d1:((if true=true then (0:Int) else 13) != 0)=false:=rfl
  have d2:(if true=true then (0:Int) else 13)=0:=rfl
  have d3:((0:Int) != 0)=false:=rfl
  simp only [d2]
  simp only [bp,aM,bhq,Nat.reduceMod,Nat.reduceDiv,aD,aE,aF,bf,aG,bc,aZ,bb,a9,yaq,yar,yao,yap,go_sem,d3,iNq,hgx,hgm,bL,aQ,ybb,qE]
  refine ⟨by omega,of_eq_true h8,S,t,k,x,⟨rfl,rfl,rfl,hxk,hS.sl,kf1⟩,?_⟩
  simp only [bp,aM,bhq,Nat.reduceMod,Nat.reduceDiv,aD,aE,aF,bf,aG,bc,aZ,bb,a9,yaq,yar,yao,yap,go_sem,wD]
  refine ⟨m,⟨rfl,mo,kf2⟩,?_⟩
  have dn1:(!true)=false:=rfl
  have dn2:(!false)=true:=rfl
  cases hp:(m.present&&!iM m x.kind (cR S x.field)) with
  |true =>
   rw [hp,if_pos rfl] at hQ
   subst hQ
   rw [if_neg (by decide)] at hR
   subst hR
   have hp2:(!m.present||iM m x.kind (cR S x.field))=false:=by
    rw [Bool.and_eq_true] at hp
    rw [hp.1]
    have:=hp.2
    cases hq:iM m x.kind (cR S x.field) with
    |true=>rw [hq] at this;cases this
    |false=>rfl
   rw [hp2]
   exact Y25
  |false =>
   rw [hp,if_neg (by decide)] at hQ
   have hp2:(!m.present||iM m x.kind (cR S x.field))=true:=by
    cases hq:iM m x.kind (cR S x.field)<;>cases hr:m.present<;>rw [hq,hr] at hp<;>first|rfl|cases hp
   rw [hp2]
   simp only [bp,aM,bhq,Nat.reduceMod,Nat.reduceDiv,aD,aE,aF,bf,aG,bc,aZ,bb,a9,yaq,yar,yao,yap,go_sem,dn1,dn2,e5]
   refine ⟨k+1,⟨by omega,hQ⟩,by omega,?_⟩
   refine ⟨by (try simp only [zkm,zkr,zla]);omega,by repeat first|exact .refl _|refine .push ?_ _,hcH,?_,?_⟩
   ·simp [ltF,zla,znj,znb,hmk]
    try omega
   ·exact Y10
 ·have hk':k=t.keys.length:=by simp at hc;omega
  subst hk'
  rw [List.drop_length,← hlen,List.drop_length] at hQ
  have hQ0:Q=0:=by rw [← hQ];rfl
  rw [if_pos hQ0] at hR
  unfold EO at hR
  simp only [bp,aM,bhq,Nat.reduceMod,Nat.reduceDiv,aD,aE,aF,bf,aG,bc,aZ,bb,a9,yaq,yar,yao,yap,go_sem,Ea]
  refine ⟨t,⟨rfl,by omega⟩,?_⟩
  have b1:(true != true)=false:=rfl
  have b2:(true != false)=true:=rfl
  have b3:(false != true)=true:=rfl
  have b4:(false != false)=false:=rfl
  have b5:(true==true)=true:=rfl
  have b6:(true==false)=false:=rfl
  have b7:(false==true)=false:=rfl
  have b8:(false==false)=true:=rfl
  cases hr:nf t with
  |true =>
   rw [hr,if_pos rfl] at hR
   by_cases p0:e.prio=0
   ·rw [if_pos (by omega)] at hR
    subst hR
    have c1:(e.prio != 0)=false:=by simp [p0]
    exact Y119
   have c1:(e.prio != 0)=true:=by simp [p0]
   by_cases p1:e.prio<0
   ·rw [if_pos (by omega)] at hR
    subst hR
    have c2:decide (e.prio<0)=true:=dtq p1
    simp only [bp,aM,bhq,Nat.reduceMod,Nat.reduceDiv,aD,aE,aF,bf,aG,bc,aZ,bb,a9,yaq,yar,yao,yap,go_sem,c1,c2,b1,b2,b3,b4,b5,b6,b7,b8]
    exact Z0
   have c2:decide (e.prio<0)=false:=dfq p1
   by_cases p2:65535<e.prio
   ·rw [if_pos (by omega)] at hR
    subst hR
    have c3:decide (65535<e.prio)=true:=dtq p2
    exact Y71
   rw [if_neg (by omega)] at hR
   subst hR
   have c3:decide (65535<e.prio)=false:=dfq p2
   exact Y71
  |false =>
   rw [hr,if_neg (by decide)] at hR
   by_cases p0:e.prio=0
   ·rw [if_neg (by omega)] at hR
    subst hR
    have c1:(e.prio != 0)=false:=by simp [p0]
    have c2:decide (e.prio<0)=false:=dfq (by omega)
    have c3:decide (65535<e.prio)=false:=dfq (by omega)
    exact Y71
   rw [if_pos (by omega)] at hR
   subst hR
   have c1:(e.prio != 0)=true:=by simp [p0]
   exact Y119
def uB:List SParam→List Nat→Bool
 |p::ps,v::vs=>decide (((bl v:Nat):Int)≤p.bits)&&uB ps vs
 |_,_=>true
def B0 (S:Sch) (id:Int):Option SAction:=S.actions.find? fun a=>a.id==id
def fq (S:Sch) (e:SEntry):Int:=match tC S e.table with
 |none=>6
 |some t=>match B0 S e.act with
  |none=>6
  |some a=>if t.actions.contains e.act=true then (if e.args.length=a.params.length then (if uB a.params e.args=true then 0 else 5) else 13) else 6
structure EArg (e:SEntry):Prop where
 ar:∀ x∈e.args,x<2^128
 al:e.args.length≤140737488355328
structure SAct (S:Sch):Prop where
 sl:SLen S
 pl:∀ a∈S.actions,a.params.length≤1000
 tl:∀ t∈S.tables,t.actions.length≤1000∧∀ n∈t.actions,∃ a,B0 S n=some a
theorem pP {α:Type} {q:α→Bool} {l:List α}:(ixP q l 0 = -1∧l.find? q=none)∨∃ (i:Nat) (x:α),ixP q l 0=(i:Int)∧i<l.length∧l[i]?=some x∧l.find? q=some x∧q x=true:=by
 exact Y69
def lO:List AV→AHeap→(AV→Prop)→Prop
 |[.agg l,.agg le],_,K=>∃ (S:Sch) (e:SEntry),(l=bv S∧le=bG e∧SAct S∧EArg e)∧K (.int .i64 (fq S e))
 |_,_,_=>False
theorem sM:EntOk Tryz.prog 23 (Ent.pure lO):=by
 refine Ype fun _ H K h=>?_
 unfold lO at h
 split at h
 rotate_left
 ·exact h.elim
 rename_i l le
 obtain ⟨S,e,⟨rfl,rfl,hS,he⟩,hK⟩:=h
 refine ⟨_,hK,?_⟩
 clear hK
 generalize hR:fq S e=R
 unfold fq at hR
 refine ACalls.fW ax (tCq pV (tCq rV (tCq Lv (tCq fD tNq)))) Tryz.func23 [.tmp 4] (nrq _) (T:=av [(11,[[],[],[],[],[],[],[0,5]])]) (h:=fun hcl hlt=>?_)
 clear hlt
 have dn1:(!true)=false:=rfl
 have dn2:(!false)=true:=rfl
 simp only [bp,aM,bhq,Nat.reduceMod,Nat.reduceDiv,aD,aE,aF,bf,aG,bc,aZ,bb,a9,yaq,yar,yao,yap,go_sem,bv,bG,mM]
 refine ⟨S,⟨rfl,hS.sl.tl⟩,?_⟩
 cases ht:tC S e.table with
 |none =>
  rw [ht] at hR
  dsimp only at hR
  subst hR
  simp only [bp,aM,bhq,Nat.reduceMod,Nat.reduceDiv,aD,aE,aF,bf,aG,bc,aZ,bb,a9,yaq,yar,yao,yap,go_sem,aV,sm,yaf,inL,kj]
  refine ⟨S,⟨rfl,hS.sl.al⟩,?_⟩
  try simp only [bp,aM,bhq,Nat.reduceMod,Nat.reduceDiv,aD,aE,aF,bf,aG,bc,aZ,bb,a9,yaq,yar,yao,yap,go_sem,dn1,dn2]
  exact Z0
 |some t =>
 rw [ht] at hR
 dsimp only at hR
 have htm:t∈S.tables:=List.mem_of_find?_eq_some ht
 obtain ⟨tl1,tl2⟩:=hS.tl t htm
 simp only [bp,aM,bhq,Nat.reduceMod,Nat.reduceDiv,aD,aE,aF,bf,aG,bc,aZ,bb,a9,yaq,yar,yao,yap,go_sem,aV,kj]
 refine ⟨S,⟨rfl,hS.sl.al⟩,?_⟩
 unfold B0 at hR
 rcases pP (q:=fun a:SAction=>a.id==e.act) (l:=S.actions) with ⟨q1,q2⟩|⟨j,a,q1,hjl,q3,q2,_⟩
 ·rw [q2] at hR
  dsimp only at hR
  subst hR
  rw [q1]
  have d:decide ((-1:Int)<0)=true:=rfl
  simp only [bp,aM,bhq,Nat.reduceMod,Nat.reduceDiv,aD,aE,aF,bf,aG,bc,aZ,bb,a9,yaq,yar,yao,yap,go_sem,dn1,dn2,d]
  exact Z0
 rw [q2] at hR
 dsimp only at hR
 rw [q1]
 have dj:decide ((j:Int)<0)=false:=by simp
 have hga:=bC (f:=a8) (l:=S.actions) (k:=j) (x:=a) q3
 have hpl:=hS.pl a (List.mem_of_getElem? q3)
 simp only [bp,aM,bhq,Nat.reduceMod,Nat.reduceDiv,aD,aE,aF,bf,aG,bc,aZ,bb,a9,yaq,yar,yao,yap,go_sem,dn1,dn2,dj,C3]
 refine ⟨t.actions,⟨rfl,by omega⟩,?_⟩
 cases hcn:t.actions.contains e.act with
 |false =>
  rw [hcn,if_neg (by decide)] at hR
  subst hR
  exact Y25
 |true =>
 rw [hcn,if_pos rfl] at hR
 simp only [bp,aM,bhq,Nat.reduceMod,Nat.reduceDiv,aD,aE,aF,bf,aG,bc,aZ,bb,a9,yaq,yar,yao,yap,go_sem,dn1,dn2,iNq,hga,a8,ybb]
 by_cases hlen:e.args.length=a.params.length
 rotate_left
 ·rw [if_neg hlen] at hR
  subst hR
  have dl:((e.args.length:Int) != (a.params.length:Int))=true:=by simp;omega
  simp only [bp,aM,bhq,Nat.reduceMod,Nat.reduceDiv,aD,aE,aF,bf,aG,bc,aZ,bb,a9,yaq,yar,yao,yap,go_sem,dl]
  exact Y34
 rw [if_pos hlen] at hR
 have dl:((e.args.length:Int) != (a.params.length:Int))=false:=by simp [hlen]
 simp only [bp,aM,bhq,Nat.reduceMod,Nat.reduceDiv,aD,aE,aF,bf,aG,bc,aZ,bb,a9,yaq,yar,yao,yap,go_sem,dl]
 refine ⟨by omega,?_⟩
 have hal:=he.al
 refine az (A:=Nat) (fun k=>[(8,.slice .any 2 (a.params.map bS)),(48,.slice .any 2 (e.args.map vv)),(49,.int .i64 (e.args.length:Int)),(50,.int .i64 (k:Int))]) (fun _=>H)
  (fun k=>k≤e.args.length∧(if uB (a.params.drop k) (e.args.drop k)=true then (0:Int) else 5)=R) (fun k=>e.args.length - k) 0 ⟨Nat.zero_le _,hR⟩ ?_ fun k hk=>?_
 ·refine ⟨by (try simp only [zkm,zkr,zla]);omega,by repeat first|exact .refl _|refine .push ?_ _,hcl,?_,?_⟩
  ·simp [ltF,zla,znj,znb,bw je,qV]
   try omega
  ·exact Y10
 clear hR
 obtain ⟨hk,hR⟩:=hk
 simp only [bp,aM,bhq,Nat.reduceMod,Nat.reduceDiv,aD,aE,aF,bf,aG,bc,aZ,bb,a9,yaq,yar,yao,yap,go_sem]
 refine au (fun hc=>?_) (fun hc=>?_)
 ·have hk':k<e.args.length:=by simp at hc;omega
  have hkp:k<a.params.length:=by omega
  obtain ⟨x,hx⟩:∃ x,x=e.args[k]:=⟨_,rfl⟩
  obtain ⟨p,hp⟩:∃ p,p=a.params[k]:=⟨_,rfl⟩
  have hd:e.args.drop k=x::e.args.drop (k+1):=by rw [hx];exact dcq hk'
  have hdp:a.params.drop k=p::a.params.drop (k+1):=by rw [hp];exact dcq hkp
  have hgx:=bC (f:=vv) (l:=e.args) (k:=k) (x:=x) (by rw [gQq hk',hx])
  have hgp:=bC (f:=bS) (l:=a.params) (k:=k) (x:=p) (by rw [gQq hkp,hp])
  have hxl:=he.ar x (by rw [hx];exact gMq hk')
  have iv:=e9 hxl
  have e5:=Yk5 k
  rw [hd,hdp] at hR
  unfold uB at hR
  simp only [bp,aM,bhq,Nat.reduceMod,Nat.reduceDiv,aD,aE,aF,bf,aG,bc,aZ,bb,a9,yaq,yar,yao,yap,go_sem,iNq,hgx,hgp,vv,bS,ybb,fL,bD,iv]
  (repeat with_reducible refine Yq ?_)
  cases hq:decide (((bl x:Nat):Int)≤p.bits) with
  |false =>
   rw [hq,Bool.false_and,if_neg (by decide)] at hR
   exact Y97
  |true =>
   rw [hq,Bool.true_and] at hR
   simp only [bp,aM,bhq,Nat.reduceMod,Nat.reduceDiv,aD,aE,aF,bf,aG,bc,aZ,bb,a9,yaq,yar,yao,yap,go_sem,dn1,dn2,e5]
   try (repeat with_reducible refine Yq ?_)
   refine ⟨k+1,⟨by omega,hR⟩,by omega,?_⟩
   refine ⟨by (try simp only [zkm,zkr,zla]);omega,by repeat first|exact .refl _|refine .push ?_ _,hcl,?_,?_⟩
   ·simp [ltF,zla,znj,znb,bw je,qV]
    try omega
   ·exact Y10
 ·have hk':k=e.args.length:=by simp at hc;omega
  subst hk'
  have hf:uB (a.params.drop e.args.length) (e.args.drop e.args.length)=true:=by
   rw [List.drop_length,hlen,List.drop_length];rfl
  rw [hf,if_pos rfl] at hR
  subst hR
  exact Y66
def Jp (ps:List SParam) (vs:List Nat):Bool:=decide (vs.length=ps.length)&&uB ps vs
def qK:List AV→AHeap→(AV→Prop)→Prop
 |[.agg l,.slice _ 2 z],_,K=>∃ (a:SAction) (vs:List Nat),(a8 a=.agg l∧z=vs.map vv∧a.params.length≤1000∧∀ x∈vs,x<2^128)∧K (.bool (Jp a.params vs))
 |_,_,_=>False
theorem BU:EntOk Tryz.prog 78 (Ent.pure qK):=by
 refine Ype fun _ H K h=>?_
 unfold qK at h
 split at h
 rotate_left
 ·exact h.elim
 rename_i l m z
 obtain ⟨a,vs,⟨ha,rfl,hpl,hvs⟩,hK⟩:=h
 refine ⟨_,hK,?_⟩
 clear hK
 unfold a8 at ha
 cases ha
 generalize hR:Jp a.params vs=R
 unfold Jp at hR
 refine ACalls.fW ax (tCq Iv tNq) Tryz.func78 [.tmp 4] (nrq _) (T:=av [(6,[[],[],[],[],[],[],[3,5]])]) (h:=fun hcl hlt=>?_)
 have hm:∀ n',H.nx≤n'→AV.lt n' (.slice m 2 (vs.map vv)):=fun n' hn=>AV.lt_mono hn _ (hlt (.slice m 2 (vs.map vv)) (by simp))
 clear hlt
 have dn1:(!true)=false:=rfl
 have dn2:(!false)=true:=rfl
 by_cases hlen:vs.length=a.params.length
 rotate_left
 ·rw [dfq hlen,Bool.false_and] at hR
  subst hR
  have dl:((vs.length:Int) != (a.params.length:Int))=true:=by simp;omega
  simp only [bp,aM,bhq,Nat.reduceMod,Nat.reduceDiv,aD,aE,aF,bf,aG,bc,aZ,bb,a9,yaq,yar,yao,yap,go_sem,ybb,dl]
  exact Z0
 rw [dtq hlen,Bool.true_and] at hR
 have dl:((vs.length:Int) != (a.params.length:Int))=false:=by simp [hlen]
 simp only [bp,aM,bhq,Nat.reduceMod,Nat.reduceDiv,aD,aE,aF,bf,aG,bc,aZ,bb,a9,yaq,yar,yao,yap,go_sem,ybb,dl]
 refine az (A:=Nat) (fun k=>[(1,.slice m 2 (vs.map vv)),(14,.slice .any 2 (a.params.map bS)),(15,.int .i64 (a.params.length:Int)),(16,.int .i64 (k:Int))]) (fun _=>H)
  (fun k=>k≤a.params.length∧uB (a.params.drop k) (vs.drop k)=R) (fun k=>a.params.length - k) 0 ⟨Nat.zero_le _,hR⟩ ?_ fun k hk=>?_
 ·refine ⟨by (try simp only [zkm,zkr,zla]);omega,by repeat first|exact .refl _|refine .push ?_ _,hcl,?_,?_⟩
  ·simp [ltF,zla,znj,znb,bw je,qV,hm,mv]
   try omega
  ·exact Y10
 clear hR
 obtain ⟨hk,hR⟩:=hk
 simp only [bp,aM,bhq,Nat.reduceMod,Nat.reduceDiv,aD,aE,aF,bf,aG,bc,aZ,bb,a9,yaq,yar,yao,yap,go_sem]
 refine au (fun hc=>?_) (fun hc=>?_)
 ·have hk':k<a.params.length:=by simp at hc;omega
  have hkv:k<vs.length:=by omega
  obtain ⟨x,hx⟩:∃ x,x=vs[k]:=⟨_,rfl⟩
  obtain ⟨p,hp⟩:∃ p,p=a.params[k]:=⟨_,rfl⟩
  have hd:vs.drop k=x::vs.drop (k+1):=by rw [hx];exact dcq hkv
  have hdp:a.params.drop k=p::a.params.drop (k+1):=by rw [hp];exact dcq hk'
  have hgx:=bC (f:=vv) (l:=vs) (k:=k) (x:=x) (by rw [gQq hkv,hx])
  have hgp:=bC (f:=bS) (l:=a.params) (k:=k) (x:=p) (by rw [gQq hk',hp])
  have hxl:=hvs x (by rw [hx];exact gMq hkv)
  have iv:=e9 hxl
  have e5:=Yk5 k
  rw [hd,hdp] at hR
  unfold uB at hR
  simp only [bp,aM,bhq,Nat.reduceMod,Nat.reduceDiv,aD,aE,aF,bf,aG,bc,aZ,bb,a9,yaq,yar,yao,yap,go_sem,iNq,hgx,hgp,vv,bS,ybb,zV,bD,iv]
  (repeat with_reducible refine Yq ?_)
  cases hq:decide (((bl x:Nat):Int)≤p.bits) with
  |false =>
   rw [hq,Bool.false_and] at hR
   exact Y97
  |true =>
   rw [hq,Bool.true_and] at hR
   simp only [bp,aM,bhq,Nat.reduceMod,Nat.reduceDiv,aD,aE,aF,bf,aG,bc,aZ,bb,a9,yaq,yar,yao,yap,go_sem,dn1,dn2,e5]
   try (repeat with_reducible refine Yq ?_)
   refine ⟨k+1,⟨by omega,hR⟩,by omega,?_⟩
   refine ⟨by (try simp only [zkm,zkr,zla]);omega,by repeat first|exact .refl _|refine .push ?_ _,hcl,?_,?_⟩
   ·simp [ltF,zla,znj,znb,bw je,qV,hm,mv]
    try omega
   ·exact Y10
 ·have hk':k=a.params.length:=by simp at hc;omega
  subst hk'
  have hf:uB (a.params.drop a.params.length) (vs.drop a.params.length)=true:=by
   rw [List.drop_length,← hlen,List.drop_length];rfl
  rw [hf] at hR
  subst hR
  exact Y66
def me:List AV→AHeap→(AV→Prop)→Prop
 |[.agg l,.agg le],_,K=>∃ (S:Sch) (e:SEntry),(l=bv S∧le=bG e∧SAct S∧EArg e)∧K (.int .i64 (fq S e))
 |_,_,_=>False
def Ll (S:Sch) (e:SEntry):Int:=match B0 S e.act with
 |none=>6
 |some a=>if e.args.length=a.params.length then (if uB a.params e.args=true then 0 else 5) else 13
theorem Ah (S:Sch) (e:SEntry) (t:STable) (ht:tC S e.table=some t):fq S e=if t.actions.contains e.act=true then Ll S e else 6:=by
 unfold fq Ll
 rw [ht]
 dsimp only
 cases B0 S e.act with
 |none=>dsimp only;split<;>rfl
 |some a=>rfl
theorem sQ:EntOk Tryz.prog 24 (Ent.pure me):=by
 refine Ype fun _ H K h=>?_
 unfold me at h
 split at h
 rotate_left
 ·exact h.elim
 rename_i l le
 obtain ⟨S,e,⟨rfl,rfl,hS,he⟩,hK⟩:=h
 refine ⟨_,hK,?_⟩
 clear hK
 generalize hR:fq S e=R
 refine ACalls.fW ax (tCq oI (tCq ss (tCq BU tNq))) Tryz.func24 [.tmp 4] (nrq _) (T:=av [(8,[[],[],[],[],[2],[],[4],[],[1,2,4,6]])]) (h:=fun hcl hlt=>?_)
 clear hlt
 have dn1:(!true)=false:=rfl
 have dn2:(!false)=true:=rfl
 simp only [bp,aM,bhq,Nat.reduceMod,Nat.reduceDiv,aD,aE,aF,bf,aG,bc,aZ,bb,a9,yaq,yar,yao,yap,go_sem,bv,bG,lE]
 refine ⟨S,⟨rfl,hS.sl⟩,?_⟩
 rcases pP (q:=fun t:STable=>t.id==e.table) (l:=S.tables) with ⟨b1,b2⟩|⟨i,t,b1,hil,b3,b2,_⟩
 ·unfold fq tC at hR
  rw [b2] at hR
  dsimp only at hR
  subst hR
  rw [b1]
  have d:decide ((-1:Int)<0)=true:=rfl
  exact Y38
 rw [Ah S e t b2] at hR
 rw [b1]
 have d:decide ((i:Int)<0)=false:=by simp
 have hg':=bC (f:=aV) (l:=S.tables) (k:=i) (x:=t) b3
 obtain ⟨tl1,tl2⟩:=hS.tl t (List.mem_of_getElem? b3)
 simp only [bp,aM,bhq,Nat.reduceMod,Nat.reduceDiv,aD,aE,aF,bf,aG,bc,aZ,bb,a9,yaq,yar,yao,yap,go_sem,d,iNq,hg',aV,ybb,AC]
 have hcH:((H.push (.cells [.slice .any 3 (S.fields.map bX),.slice .any 3 (S.headers.map dX),.slice .any 5 (S.states.map cS),.slice .any 5 (S.actions.map a8),.slice .any 8 (S.tables.map aV),.slice .any 2 (S.stages.map jn),.slice .any 6 (S.roles.map fp),.slice .any 6 (S.refs.map ph),.int .i64 S.maxBatch,.int .i64 S.budget])).push (.cells [.int .i64 e.table,.slice .any 8 (e.ms.map aQ),.int .i64 e.prio,.int .i64 e.act,.slice .any 2 (e.args.map vv)])).Closed:=ae (ae hcl (Ee S)) (JF e)
 (repeat with_reducible refine Yq ?_)
 refine az (A:=Nat) (fun k=>[(2,.ptr H.nx 0),(3,.ptr (H.nx+1) 0),(20,.slice .any 1 (inL t.actions)),(21,.int .i64 (t.actions.length:Int)),(22,.int .i64 (k:Int))]) (fun _=>((H.push (.cells [.slice .any 3 (S.fields.map bX),.slice .any 3 (S.headers.map dX),.slice .any 5 (S.states.map cS),.slice .any 5 (S.actions.map a8),.slice .any 8 (S.tables.map aV),.slice .any 2 (S.stages.map jn),.slice .any 6 (S.roles.map fp),.slice .any 6 (S.refs.map ph),.int .i64 S.maxBatch,.int .i64 S.budget])).push (.cells [.int .i64 e.table,.slice .any 8 (e.ms.map aQ),.int .i64 e.prio,.int .i64 e.act,.slice .any 2 (e.args.map vv)])))
  (fun k=>k≤t.actions.length∧(if (t.actions.drop k).contains e.act=true then Ll S e else 6)=R) (fun k=>t.actions.length - k) 0 ⟨Nat.zero_le _,hR⟩ ?_ fun k hk=>?_
 ·refine ⟨by (try simp only [zkm,zkr,zla]);omega,by repeat first|exact .refl _|refine .push ?_ _,hcH,?_,?_⟩
  ·simp [ltF,zla,znj,znb,bw je,qV,mv]
   try omega
  ·exact Y10
 clear hR
 obtain ⟨hk,hR⟩:=hk
 simp only [bp,aM,bhq,Nat.reduceMod,Nat.reduceDiv,aD,aE,aF,bf,aG,bc,aZ,bb,a9,yaq,yar,yao,yap,go_sem]
 refine au (fun hc=>?_) (fun hc=>?_)
 ·have hk':k<t.actions.length:=by simp at hc;omega
  obtain ⟨x,hx⟩:∃ x,x=t.actions[k]:=⟨_,rfl⟩
  have hd:t.actions.drop k=x::t.actions.drop (k+1):=by rw [hx];exact dcq hk'
  have hgx:=bC (f:=AV.int .i64) (l:=t.actions) (k:=k) (x:=x) (by rw [gQq hk',hx])
  have e5:=Yk5 k
  rw [hd,List.contains_cons] at hR
  by_cases hxe:x=e.act
  rotate_left
  ·have c1:(e.act==x)=false:=beq_eq_false_iff_ne.2 (Ne.symm hxe)
   have c2:(x != e.act)=true:=by simp [hxe]
   rw [c1,Bool.false_or] at hR
   simp only [bp,aM,bhq,Nat.reduceMod,Nat.reduceDiv,aD,aE,aF,bf,aG,bc,aZ,bb,a9,yaq,yar,yao,yap,go_sem,inL,iNq,hgx,ybb,c2,e5]
   (repeat with_reducible refine Yq ?_)
   refine ⟨k+1,⟨by omega,hR⟩,by omega,?_⟩
   refine ⟨by (try simp only [zkm,zkr,zla]);omega,by repeat first|exact .refl _|refine .push ?_ _,hcH,?_,?_⟩
   ·simp [ltF,zla,znj,znb,bw je,qV,show AV.lt H.nx (.slice .any 1 (t.actions.map (AV.int .i64))) from mv,show AV.lt (H.nx+1+1) (.slice .any 1 (t.actions.map (AV.int .i64))) from mv]
    try omega
   ·exact Y10
  have c1:(e.act==x)=true:=by rw [hxe];simp
  have c2:(x != e.act)=false:=by simp [hxe]
  rw [c1,Bool.true_or,if_pos rfl] at hR
  obtain ⟨a,haf⟩:=tl2 x (by rw [hx];exact gMq hk')
  rw [hxe] at haf
  unfold Ll at hR
  rw [haf] at hR
  dsimp only at hR
  simp only [bp,aM,bhq,Nat.reduceMod,Nat.reduceDiv,aD,aE,aF,bf,aG,bc,aZ,bb,a9,yaq,yar,yao,yap,go_sem,inL,iNq,hgx,ybb,c2,lV]
  (repeat with_reducible refine Yq ?_)
  refine ⟨S,⟨rfl,hS.sl⟩,?_⟩
  unfold B0 at haf
  rw [hxe]
  rcases pP (q:=fun a:SAction=>a.id==e.act) (l:=S.actions) with ⟨q1,q2⟩|⟨j,a',q1,hjl,q3,q2,_⟩
  ·rw [q2] at haf;cases haf
  rw [q2] at haf
  cases haf
  rw [q1]
  have hga:=bC (f:=a8) (l:=S.actions) (k:=j) (x:=a) q3
  have hpl:=hS.pl a (List.mem_of_getElem? q3)
  by_cases hlen:e.args.length=a.params.length
  rotate_left
  ·rw [if_neg hlen] at hR
   subst hR
   have dl:((e.args.length:Int) != (a.params.length:Int))=true:=by simp;omega
   simp only [bp,aM,bhq,Nat.reduceMod,Nat.reduceDiv,aD,aE,aF,bf,aG,bc,aZ,bb,a9,yaq,yar,yao,yap,go_sem,iNq,hga,a8,ybb,dl]
   refine ⟨by omega,.inr ⟨S,⟨rfl,hS.sl⟩,by rw [q1]⟩,?_⟩
   try simp only [bp,aM,bhq,Nat.reduceMod,Nat.reduceDiv,aD,aE,aF,bf,aG,bc,aZ,bb,a9,yaq,yar,yao,yap,go_sem,dl]
   exact Z0
  rw [if_pos hlen] at hR
  have dl:((e.args.length:Int) != (a.params.length:Int))=false:=by simp [hlen]
  have hfl:Jp a.params e.args=uB a.params e.args:=by unfold Jp;rw [dtq hlen,Bool.true_and]
  simp only [bp,aM,bhq,Nat.reduceMod,Nat.reduceDiv,aD,aE,aF,bf,aG,bc,aZ,bb,a9,yaq,yar,yao,yap,go_sem,iNq,hga,a8,ybb,dl,qK]
  refine ⟨by omega,.inr ⟨S,⟨rfl,hS.sl⟩,by rw [q1]⟩,a,e.args,⟨rfl,rfl,hpl,he.ar⟩,?_⟩
  rw [hfl]
  cases hfa:uB a.params e.args with
  |true =>
   rw [hfa,if_pos rfl] at hR
   subst hR
   exact Y25
  |false =>
   rw [hfa,if_neg (by decide)] at hR
   subst hR
   exact Y25
 ·have hk':k=t.actions.length:=by simp at hc;omega
  subst hk'
  rw [List.drop_length] at hR
  have hR6:R=6:=by rw [← hR];rfl
  subst hR6
  exact Y66
structure SAll (S:Sch):Prop where
 ck:SChk S
 ac:SAct S
 ad:SAdm S
structure EAll (e:SEntry):Prop where
 ok:EOk e
 ar:EArg e
 ad:EAdm e
noncomputable def tw (S:Sch) (e:SEntry):Int:=if fY S e=0 then (if fq S e=0 then (if zB S e=true then 0 else 15) else fq S e) else fY S e
def wq:List AV→AHeap→(AV→Prop)→Prop
 |[.agg l,.agg le],_,K=>∃ (S:Sch) (e:SEntry),(l=bv S∧le=bG e∧SAll S∧EAll e)∧K (.int .i64 (tw S e))
 |_,_,_=>False
theorem Ha:EntOk Tryz.prog 25 (Ent.pure wq):=by
 refine Ype fun _ H K h=>?_
 unfold wq at h
 split at h
 rotate_left
 ·exact h.elim
 rename_i l le
 obtain ⟨S,e,⟨rfl,rfl,hS,he⟩,hK⟩:=h
 refine ⟨_,hK,?_⟩
 clear hK
 generalize hR:tw S e=R
 unfold tw at hR
 refine Yfv ax (tCq nJ (tCq sM (tCq Mw tNq))) Tryz.func25 [.tmp 4] fun hcl hlt=>?_
 clear hlt
 have dn1:(!true)=false:=rfl
 have dn2:(!false)=true:=rfl
 simp only [bp,aM,bhq,Nat.reduceMod,Nat.reduceDiv,aD,aE,aF,bf,aG,bc,aZ,bb,a9,yaq,yar,yao,yap,go_sem,bv,bG,ku]
 refine ⟨S,e,⟨rfl,rfl,hS.ck.sl.tl,hS.ck.sl.fl,fun t ht=>by have:=hS.ck.kl t ht;omega,he.ok⟩,?_⟩
 generalize fY S e=k at *
 by_cases hk:k=0
 rotate_left
 ·rw [if_neg hk] at hR
  subst hR
  have d:(k != 0)=true:=by simp [hk]
  exact Y38
 rw [if_pos hk] at hR
 have d:(k != 0)=false:=by simp [hk]
 simp only [bp,aM,bhq,Nat.reduceMod,Nat.reduceDiv,aD,aE,aF,bf,aG,bc,aZ,bb,a9,yaq,yar,yao,yap,go_sem,d,lO]
 refine ⟨S,e,⟨rfl,rfl,hS.ac,he.ar⟩,?_⟩
 generalize fq S e=c at *
 by_cases hc:c=0
 rotate_left
 ·rw [if_neg hc] at hR
  subst hR
  have d:(c != 0)=true:=by simp [hc]
  exact Y38
 rw [if_pos hc] at hR
 have d2:(c != 0)=false:=by simp [hc]
 simp only [bp,aM,bhq,Nat.reduceMod,Nat.reduceDiv,aD,aE,aF,bf,aG,bc,aZ,bb,a9,yaq,yar,yao,yap,go_sem,d2,C6]
 refine ⟨S,e,⟨rfl,rfl,hS.ad,he.ad⟩,?_⟩
 cases ha:zB S e with
 |true =>
  rw [ha,if_pos rfl] at hR
  subst hR
  exact Y25
 |false =>
  rw [ha,if_neg (by decide)] at hR
  subst hR
  exact Y25
def vG:List AV→AHeap→(AV→Prop)→Prop
 |[.agg l,.agg le],_,K=>∃ (S:Sch) (e:SEntry),(l=bv S∧le=bG e∧SAll S∧EAll e)∧K (.int .i64 (tw S e))
 |_,_,_=>False
theorem Hi:EntOk Tryz.prog 26 (Ent.pure vG):=by
 refine Ype fun _ H K h=>?_
 unfold vG at h
 split at h
 rotate_left
 ·exact h.elim
 rename_i l le
 obtain ⟨S,e,⟨rfl,rfl,hS,he⟩,hK⟩:=h
 refine ⟨_,hK,?_⟩
 clear hK
 generalize hR:tw S e=R
 unfold tw at hR
 refine Yfv ax (tCq rR (tCq sQ (tCq L5 tNq))) Tryz.func26 [.tmp 4] fun hcl hlt=>?_
 clear hlt
 have dn1:(!true)=false:=rfl
 have dn2:(!false)=true:=rfl
 simp only [bp,aM,bhq,Nat.reduceMod,Nat.reduceDiv,aD,aE,aF,bf,aG,bc,aZ,bb,a9,yaq,yar,yao,yap,go_sem,bv,bG,l6]
 refine ⟨S,e,⟨rfl,rfl,hS.ck,he.ok⟩,?_⟩
 generalize fY S e=k at *
 by_cases hk:k=0
 rotate_left
 ·rw [if_neg hk] at hR
  subst hR
  have d:(k != 0)=true:=by simp [hk]
  exact Y38
 rw [if_pos hk] at hR
 have d:(k != 0)=false:=by simp [hk]
 simp only [bp,aM,bhq,Nat.reduceMod,Nat.reduceDiv,aD,aE,aF,bf,aG,bc,aZ,bb,a9,yaq,yar,yao,yap,go_sem,d,me]
 refine ⟨S,e,⟨rfl,rfl,hS.ac,he.ar⟩,?_⟩
 generalize fq S e=c at *
 by_cases hc:c=0
 rotate_left
 ·rw [if_neg hc] at hR
  subst hR
  have d:(c != 0)=true:=by simp [hc]
  exact Y38
 rw [if_pos hc] at hR
 have d2:(c != 0)=false:=by simp [hc]
 simp only [bp,aM,bhq,Nat.reduceMod,Nat.reduceDiv,aD,aE,aF,bf,aG,bc,aZ,bb,a9,yaq,yar,yao,yap,go_sem,d2,Dm]
 refine ⟨S,e,⟨rfl,rfl,hS.ad,he.ad⟩,?_⟩
 cases ha:zB S e with
 |true =>
  rw [ha,if_pos rfl] at hR
  subst hR
  exact Y25
 |false =>
  rw [ha,if_neg (by decide)] at hR
  subst hR
  exact Y25
end Go.AL
