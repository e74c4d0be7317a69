/- Lemmas of the proof; no condition. -/
import Derived.Test.YtjnhidpnfdbmaaaGreatS10r
import Derived.Test.YtjnhidpnfdbmaaaGreatS10p
set_option linter.all false
set_option maxRecDepth 10000
set_option maxHeartbeats 32000000
open List renaming length_cons → yaz, length_nil → yba, take_of_length_le → ybc, drop_append → ybd, take_append → ybe, drop_eq_nil_of_le → ybf, cons_append → yal, nil_append → yak, length_map → ybb, take_succ_cons → yaq, take_zero → yar, drop_succ_cons → yao, drop_zero → yap, map_cons → yae, map_nil → yaf, append_nil → yaj
open Go Go.AL Go.Proofs
namespace Go.AL
def LA (S:Sch) (n:Int):Prop:=0≤ixP (fun f:SField=>f.id==n) S.fields 0
def jl (a b:Int):Int:=if a<b then -1 else if b<a then 1 else 0
def c6:List Int→Int
 |[]=>0
 |x::xs=>if (x != 0)=true then x else c6 xs
theorem DK {a b:Int}:(jl a b != 0)=(a != b):=by
 unfold jl
 split
 ·have:a≠b:=by omega
  simp [this]
 ·split
  ·have:a≠b:=by omega
   simp [this]
  ·have:a=b:=by omega
   simp [this]
def pI (m:SMatch):Int:=if m.present=true then 1 else 0
def jN (m n:SMatch):Int:=c6 [jl (pI m) (pI n),fy m.value n.value,fy m.mask n.mask,jl m.pfx n.pfx,fy m.high n.high]
theorem vS {a:Int}:jl a a=0:=by simp [jl]
theorem vK {a:Nat}:fy a a=0:=by simp [fy]
def dO:List AV→AHeap→(AV→Prop)→Prop
 |[.int .i64 a,.int .i64 b],_,K=>K (.int .i64 (jl a b))
 |_,_,_=>False
theorem eW:EntOk Tryz.prog 95 (Ent.pure dO):=by
 refine Ype fun _ H K h=>?_
 unfold dO at h
 split at h
 rotate_left
 ·exact h.elim
 rename_i a b
 refine ⟨_,h,?_⟩
 clear h
 unfold jl
 by_cases h1:a<b
 ·rw [if_pos h1]
  have d1:decide (a<b)=true:=dtq h1
  refine ACalls.fW au tNq Tryz.func95 [.tmp 4] (nrq _) (T:=aq []) (h:=fun hcl hlt=>?_)
  clear hlt
  simp only [go_sem,d1]
  exact Z0
 ·rw [if_neg h1]
  have d1:decide (a<b)=false:=dfq h1
  by_cases h2:b<a
  ·rw [if_pos h2]
   have d2:decide (a > b)=true:=dtq h2
   refine ACalls.fW au tNq Tryz.func95 [.tmp 4] (nrq _) (T:=aq []) (h:=fun hcl hlt=>?_)
   clear hlt
   simp only [go_sem,d1,d2]
   exact Z0
  ·rw [if_neg h2]
   have d2:decide (a > b)=false:=dfq h2
   refine ACalls.fW au tNq Tryz.func95 [.tmp 4] (nrq _) (T:=aq []) (h:=fun hcl hlt=>?_)
   clear hlt
   simp only [go_sem,d1,d2]
   exact Z0
def uE:List AV→AHeap→(AV→Prop)→Prop
 |[.agg l,.agg k],_,K=>∃ m n:SMatch,(l=bx m∧k=bx n∧MOk m∧MOk n)∧K (.int .i64 (jN m n))
 |_,_,_=>False
theorem mv {a:Int} {l:List Int}:c6 (a::l)=if (a != 0)=true then a else c6 l:=rfl
theorem v4 {x y:Nat}:(fy x y != 0)=!decide (x=y):=by
 unfold fy
 split
 ·simp_all
 ·split<;>simp_all
theorem EE:EntOk Tryz.prog 135 (Ent.pure uE):=by
 refine Ype fun _ H K h=>?_
 unfold uE at h
 split at h
 rotate_left
 ·exact h.elim
 rename_i l k
 obtain ⟨m,n,⟨rfl,rfl,⟨v1,k1,g1⟩,⟨v2,k2,g2⟩⟩,hK⟩:=h
 refine ⟨_,hK,?_⟩
 clear hK
 have i1:=ik v1
 have i2:=ik v2
 have i3:=ik k1
 have i4:=ik k2
 have i5:=ik g1
 have i6:=ik g2
 by_cases hp:m.present=n.present
 ·have dp:(m.present==n.present)=true:=by simp [hp]
  have c0:jl (pI m) (pI n)=0:=by unfold pI;rw [hp];exact vS
  by_cases hv:m.value=n.value
  ·have dv:decide (m.value=n.value)=true:=dtq hv
   have c1:fy m.value n.value=0:=by rw [hv];exact vK
   by_cases hm:m.mask=n.mask
   ·have dm:decide (m.mask=n.mask)=true:=dtq hm
    have c2:fy m.mask n.mask=0:=by rw [hm];exact vK
    by_cases hf:m.pfx=n.pfx
    ·have df:(m.pfx != n.pfx)=false:=by simp [hf]
     have c3:jl m.pfx n.pfx=0:=by rw [hf];exact vS
     have e:jN m n=fy m.high n.high:=by unfold jN;rw [c0,c1,c2,c3];simp only [c6];split<;>simp_all
     rw [e]
     refine ACalls.fW au (tCq fE (tCq eW tNq)) Tryz.func135 [.tmp 4] (nrq _) (T:=aq []) (h:=fun hcl hlt=>?_)
     clear hlt
     simp only [go_sem,bx,vc,yal,yak,dp,dv,dm,df,gG,fx,cP,cO,Bool.bne_true,Bool.not_true,Bool.not_false,fg,dO,p2V,i1,i2,i3,i4,i5,i6,iNq,cz]
     try simp (disch:=first|exact Zd|omega) [↓zmo,beq,ybc,ybd,ybe,ae,wk,wk2,wk1,wkM,wkL,ah,ybf,hcl]
     first|done|repeat first|exact .refl _|refine .push ?_ _
    ·have df:(m.pfx != n.pfx)=true:=by simp [hf]
     have c3:(jl m.pfx n.pfx != 0)=true:=by rw [DK];exact df
     have e:jN m n=jl m.pfx n.pfx:=by unfold jN;rw [c0,c1,c2];simp only [mv,c3];rfl
     rw [e]
     refine ACalls.fW au (tCq fE (tCq eW tNq)) Tryz.func135 [.tmp 4] (nrq _) (T:=aq []) (h:=fun hcl hlt=>?_)
     clear hlt
     simp only [go_sem,bx,vc,yal,yak,dp,dv,dm,df,gG,fx,cP,cO,Bool.bne_true,Bool.not_true,Bool.not_false,fg,dO,p2V,i1,i2,i3,i4,i5,i6,iNq,cz]
     try simp (disch:=first|exact Zd|omega) [↓zmo,beq,ybc,ybd,ybe,ae,wk,wk2,wk1,wkM,wkL,ah,ybf,hcl]
     first|done|repeat first|exact .refl _|refine .push ?_ _
   ·have dm:decide (m.mask=n.mask)=false:=dfq hm
    have c2:(fy m.mask n.mask != 0)=true:=by rw [v4,dm];rfl
    have e:jN m n=fy m.mask n.mask:=by unfold jN;rw [c0,c1];simp only [mv,c2];rfl
    rw [e]
    refine ACalls.fW au (tCq fE (tCq eW tNq)) Tryz.func135 [.tmp 4] (nrq _) (T:=aq []) (h:=fun hcl hlt=>?_)
    clear hlt
    simp only [go_sem,bx,vc,yal,yak,dp,dv,dm,gG,fx,cP,cO,Bool.bne_true,Bool.not_true,Bool.not_false,fg,dO,p2V,i1,i2,i3,i4,i5,i6,iNq,cz]
    try simp (disch:=first|exact Zd|omega) [↓zmo,beq,ybc,ybd,ybe,ae,wk,wk2,wk1,wkM,wkL,ah,ybf,hcl]
    first|done|repeat first|exact .refl _|refine .push ?_ _
  ·have dv:decide (m.value=n.value)=false:=dfq hv
   have c1:(fy m.value n.value != 0)=true:=by rw [v4,dv];rfl
   have e:jN m n=fy m.value n.value:=by unfold jN;rw [c0];simp only [mv,c1];rfl
   rw [e]
   refine ACalls.fW au (tCq fE (tCq eW tNq)) Tryz.func135 [.tmp 4] (nrq _) (T:=aq []) (h:=fun hcl hlt=>?_)
   clear hlt
   simp only [go_sem,bx,vc,yal,yak,dp,dv,gG,fx,cP,cO,Bool.bne_true,Bool.not_true,Bool.not_false,fg,dO,p2V,i1,i2,i3,i4,i5,i6,iNq,cz]
   try simp (disch:=first|exact Zd|omega) [↓zmo,beq,ybc,ybd,ybe,ae,wk,wk2,wk1,wkM,wkL,ah,ybf,hcl]
   first|done|repeat first|exact .refl _|refine .push ?_ _
 ·have dp:(m.present==n.present)=false:=by simp [hp]
  cases hn:n.present
  ·have hm:m.present=true:=by
    cases h:m.present with
    |true=>rfl
    |false=>exact absurd (h.trans hn.symm) hp
   have e:jN m n=1:=by unfold jN pI;rw [hm,hn];rfl
   rw [e]
   refine ACalls.fW au (tCq fE (tCq eW tNq)) Tryz.func135 [.tmp 4] (nrq _) (T:=aq []) (h:=fun hcl hlt=>?_)
   clear hlt
   simp only [go_sem,bx,vc,yal,yak,hm,hn,show (true != false)=true from rfl,show (false != true)=true from rfl,show (true==false)=false from rfl,show (false==true)=false from rfl,gG,fx,cP,cO,Bool.bne_true,Bool.not_true,Bool.not_false,fg,dO,p2V,i1,i2,i3,i4,i5,i6,iNq,cz]
   try simp (disch:=first|exact Zd|omega) [↓zmo,beq,ybc,ybd,ybe,ae,wk,wk2,wk1,wkM,wkL,ah,ybf,hcl]
   first|done|repeat first|exact .refl _|refine .push ?_ _
  ·have hm:m.present=false:=by
    cases h:m.present with
    |false=>rfl
    |true=>exact absurd (h.trans hn.symm) hp
   have e:jN m n = -1:=by unfold jN pI;rw [hm,hn];rfl
   rw [e]
   refine ACalls.fW au (tCq fE (tCq eW tNq)) Tryz.func135 [.tmp 4] (nrq _) (T:=aq []) (h:=fun hcl hlt=>?_)
   clear hlt
   simp only [go_sem,bx,vc,yal,yak,hm,hn,show (true != false)=true from rfl,show (false != true)=true from rfl,show (true==false)=false from rfl,show (false==true)=false from rfl,gG,fx,cP,cO,Bool.bne_true,Bool.not_true,Bool.not_false,fg,dO,p2V,i1,i2,i3,i4,i5,i6,iNq,cz]
   try simp (disch:=first|exact Zd|omega) [↓zmo,beq,ybc,ybd,ybe,ae,wk,wk2,wk1,wkM,wkL,ah,ybf,hcl]
   first|done|repeat first|exact .refl _|refine .push ?_ _
theorem zh:ti Tryz.prog 23=some ⟨.slice 47,1,24,.slice .nil 1 []⟩:=by kernel_rfl
theorem AW:ti Tryz.prog 24=some ⟨.slice 29,1,24,.slice .nil 1 []⟩:=by kernel_rfl
theorem EL:ti Tryz.prog 47=some ⟨.struct [(0,4,false),(1,29,false),(3,29,false),(5,3,false),(6,29,false)],8,64,.agg [.bool false,.int .u64 0,.int .u64 0,.int .u64 0,.int .u64 0,.int .i64 0,.int .u64 0,.int .u64 0]⟩:=by kernel_rfl
attribute [go_sem] zh AW EL
def kD {α:Type} (f:α→α→Int):List α→List α→Int
 |[],[]=>0
 |[],_::_ => -1
 |_::_,[]=>1
 |x::xs,y::ys=>if (f x y != 0)=true then f x y else kD f xs ys
theorem qb {α:Type} {f:α→α→Int}:∀ {xs ys:List α} {k:Nat},k≤xs.length→k≤ys.length→(k=xs.length∨k=ys.length)→kD f (xs.drop k) (ys.drop k)=jl xs.length ys.length:=by
 intro xs ys k h1 h2 h
 have e1:(xs.drop k).length=xs.length - k:=List.length_drop ..
 have e2:(ys.drop k).length=ys.length - k:=List.length_drop ..
 generalize xs.drop k=a at *
 generalize ys.drop k=b at *
 unfold jl
 cases a with
 |nil =>
  cases b with
  |nil =>
   simp only [yba] at e1 e2
   rw [if_neg (by omega),if_neg (by omega)];rfl
  |cons y ys' =>
   simp only [yba,yaz] at e1 e2
   rw [if_pos (by omega)];rfl
 |cons x xs' =>
  cases b with
  |nil =>
   simp only [yba,yaz] at e1 e2
   rw [if_neg (by omega),if_pos (by omega)];rfl
  |cons y ys' =>
   simp only [yaz] at e1 e2
   omega
def rh:List AV→AHeap→(AV→Prop)→Prop
 |[.slice _ 8 l,.slice _ 8 k],_,K=>∃ ms ns:List SMatch,(l=ms.map aI∧k=ns.map aI∧ms.length≤140737488355328∧ns.length≤140737488355328∧(∀ x∈ms,MOk x)∧∀ x∈ns,MOk x)∧K (.int .i64 (kD jN ms ns))
 |_,_,_=>False
theorem zS:EntOk Tryz.prog 96 (Ent.pure rh):=by
 refine Ype fun _ H K h=>?_
 unfold rh at h
 split at h
 rotate_left
 ·exact h.elim
 rename_i m1 l m2 k
 obtain ⟨ms,ns,⟨rfl,rfl,hl1,hl2,ho1,ho2⟩,hK⟩:=h
 refine ⟨_,hK,?_⟩
 clear hK
 generalize hR:kD jN ms ns=R
 refine ACalls.fW au (tCq EE (tCq eW tNq)) Tryz.func96 [.tmp 4] (nrq _) (T:=aq [(4,[[],[],[],[],[],[],[],[],[3,7]])]) (h:=fun hcl hlt=>?_)
 have hm1:AV.lt H.nx (.slice m1 8 (ms.map aI)):=hlt _ (by simp)
 have hm2:AV.lt H.nx (.slice m2 8 (ns.map aI)):=hlt _ (by simp)
 clear hlt
 simp only [go_sem,ybb]
 refine az (A:=Nat) (fun k=>[(0,.slice m1 8 (ms.map aI)),(1,.slice m2 8 (ns.map aI)),(5,.int .i64 (k:Int))]) (fun _=>H) (fun k=>k≤ms.length∧k≤ns.length∧kD jN (ms.drop k) (ns.drop k)=R) (fun k=>ms.length - k) 0 ⟨by omega,by omega,hR⟩ ?_ fun k hk=>?_
 ·refine ⟨nrq _,lRq _,hcl,?_,?_⟩
  ·simp [ltF,znf,hm1,hm2]
  ·simp [aJ,wk2,wk1,wkM,Fr.get]
 clear hR
 obtain ⟨hk1,hk2,hR⟩:=hk
 by_cases hk':k<ms.length
 ·have d0:decide ((k:Int)<(ms.length:Int))=true:=dtq (by omega)
  obtain ⟨x,hx⟩:∃ x,x=ms[k]:=⟨_,rfl⟩
  have hd:ms.drop k=x::ms.drop (k+1):=by rw [hx];exact dcq hk'
  have hg:=aX (f:=aI) (l:=ms) (k:=k) (x:=x) (by rw [gQq hk',hx])
  have e5:=Yk5 k
  have hox:=ho1 x (by rw [hx];exact gMq hk')
  by_cases hk3:k<ns.length
  ·have d1:decide ((k:Int)<(ns.length:Int))=true:=dtq (by omega)
   obtain ⟨y,hy⟩:∃ y,y=ns[k]:=⟨_,rfl⟩
   have hd2:ns.drop k=y::ns.drop (k+1):=by rw [hy];exact dcq hk3
   have hg2:=aX (f:=aI) (l:=ns) (k:=k) (x:=y) (by rw [gQq hk3,hy])
   have hoy:=ho2 y (by rw [hy];exact gMq hk3)
   rw [hd,hd2] at hR
   unfold kD at hR
   skip
   simp only [go_sem,iNq,ybb,hg,hg2,d0,d1,aI,bx,vc,yal,yak,uE]
   (repeat with_reducible refine Yq ?_)
   refine ⟨x,y,⟨rfl,rfl,hox,hoy⟩,?_⟩
   try simp only [a9,aG,bhq,Nat.reduceMod,Nat.reduceDiv,aB,aC,aE,aV,aD,aU,aP,aS,aT,yaq,yar,yao,yap,go_sem,ybb]
   refine ai (fun hq=>?_) (fun hq=>?_)
   ·rw [if_pos hq] at hR
    subst hR
    simp only [go_sem]
    simp (disch:=first|exact Zd|omega) [↓zmo,beq,ybc,ybd,ybe,ae,wk,wk2,wk1,wkM,wkL,ah,ybf,hcl]
    first|done|repeat first|exact .refl _|refine .push ?_ _
   ·rw [if_neg (by rw [hq];decide)] at hR
    simp only [go_sem,e5]
    refine ⟨k+1,⟨by omega,by omega,hR⟩,by omega,nrq _,by repeat first|exact .refl _|refine .push ?_ _,hcl,?_,?_⟩
    ·simp [ltF,znf,hm1,hm2]
    ·simp [aJ,wk2,wk1,wkM,Fr.get]
  ·have d1:decide ((k:Int)<(ns.length:Int))=false:=dfq (by omega)
   have he:=qb (f:=jN) hk1 hk2 (.inr (by omega))
   rw [he] at hR
   subst hR
   simp only [go_sem,iNq,ybb,d0,d1,dO]
   (repeat with_reducible refine Yq ?_)
   simp (disch:=first|exact Zd|omega) [↓zmo,beq,ybc,ybd,ybe,ae,wk,wk2,wk1,wkM,wkL,ah,ybf,hcl]
   first|done|repeat first|exact .refl _|refine .push ?_ _
 ·have d0:decide ((k:Int)<(ms.length:Int))=false:=dfq (by omega)
  have he:=qb (f:=jN) hk1 hk2 (.inl (by omega))
  rw [he] at hR
  subst hR
  simp only [go_sem,iNq,ybb,d0,dO]
  (repeat with_reducible refine Yq ?_)
  simp (disch:=first|exact Zd|omega) [↓zmo,beq,ybc,ybd,ybe,ae,wk,wk2,wk1,wkM,wkL,ah,ybf,hcl]
  first|done|repeat first|exact .refl _|refine .push ?_ _
def qn:List AV→AHeap→(AV→Prop)→Prop
 |[.slice _ 2 l,.slice _ 2 k],_,K=>∃ ms ns:List Nat,(l=ms.map vv∧k=ns.map vv∧ms.length≤140737488355328∧ns.length≤140737488355328∧(∀ x∈ms,x<2^128)∧∀ x∈ns,x<2^128)∧K (.int .i64 (kD fy ms ns))
 |_,_,_=>False
theorem At:EntOk Tryz.prog 97 (Ent.pure qn):=by
 refine Ype fun _ H K h=>?_
 unfold qn at h
 split at h
 rotate_left
 ·exact h.elim
 rename_i m1 l m2 k
 obtain ⟨ms,ns,⟨rfl,rfl,hl1,hl2,ho1,ho2⟩,hK⟩:=h
 refine ⟨_,hK,?_⟩
 clear hK
 generalize hR:kD fy ms ns=R
 refine ACalls.fW au (tCq fE (tCq eW tNq)) Tryz.func97 [.tmp 4] (nrq _) (T:=aq [(4,[[],[],[],[],[],[],[],[],[3,7]])]) (h:=fun hcl hlt=>?_)
 have hm1:AV.lt H.nx (.slice m1 2 (ms.map vv)):=hlt _ (by simp)
 have hm2:AV.lt H.nx (.slice m2 2 (ns.map vv)):=hlt _ (by simp)
 clear hlt
 simp only [go_sem,ybb]
 refine az (A:=Nat) (fun k=>[(0,.slice m1 2 (ms.map vv)),(1,.slice m2 2 (ns.map vv)),(5,.int .i64 (k:Int))]) (fun _=>H) (fun k=>k≤ms.length∧k≤ns.length∧kD fy (ms.drop k) (ns.drop k)=R) (fun k=>ms.length - k) 0 ⟨by omega,by omega,hR⟩ ?_ fun k hk=>?_
 ·refine ⟨nrq _,lRq _,hcl,?_,?_⟩
  ·simp [ltF,znf,hm1,hm2]
  ·simp [aJ,wk2,wk1,wkM,Fr.get]
 clear hR
 obtain ⟨hk1,hk2,hR⟩:=hk
 by_cases hk':k<ms.length
 ·have d0:decide ((k:Int)<(ms.length:Int))=true:=dtq (by omega)
  obtain ⟨x,hx⟩:∃ x,x=ms[k]:=⟨_,rfl⟩
  have hd:ms.drop k=x::ms.drop (k+1):=by rw [hx];exact dcq hk'
  have hg:=aX (f:=vv) (l:=ms) (k:=k) (x:=x) (by rw [gQq hk',hx])
  have e5:=Yk5 k
  have hox:=ho1 x (by rw [hx];exact gMq hk')
  by_cases hk3:k<ns.length
  ·have d1:decide ((k:Int)<(ns.length:Int))=true:=dtq (by omega)
   obtain ⟨y,hy⟩:∃ y,y=ns[k]:=⟨_,rfl⟩
   have hd2:ns.drop k=y::ns.drop (k+1):=by rw [hy];exact dcq hk3
   have hg2:=aX (f:=vv) (l:=ns) (k:=k) (x:=y) (by rw [gQq hk3,hy])
   have hoy:=ho2 y (by rw [hy];exact gMq hk3)
   rw [hd,hd2] at hR
   unfold kD at hR
   have ix:=ik hox
   have iy:=ik hoy
   simp only [go_sem,iNq,ybb,hg,hg2,d0,d1,vv,vc,fg,p2V,ix,iy,iNq,cz]
   (repeat with_reducible refine Yq ?_)
   try simp only [a9,aG,bhq,Nat.reduceMod,Nat.reduceDiv,aB,aC,aE,aV,aD,aU,aP,aS,aT,yaq,yar,yao,yap,go_sem,ybb]
   refine ai (fun hq=>?_) (fun hq=>?_)
   ·rw [if_pos hq] at hR
    subst hR
    simp only [go_sem]
    simp (disch:=first|exact Zd|omega) [↓zmo,beq,ybc,ybd,ybe,ae,wk,wk2,wk1,wkM,wkL,ah,ybf,hcl]
    first|done|repeat first|exact .refl _|refine .push ?_ _
   ·rw [if_neg (by rw [hq];decide)] at hR
    simp only [go_sem,e5]
    refine ⟨k+1,⟨by omega,by omega,hR⟩,by omega,nrq _,by repeat first|exact .refl _|refine .push ?_ _,hcl,?_,?_⟩
    ·simp [ltF,znf,hm1,hm2]
    ·simp [aJ,wk2,wk1,wkM,Fr.get]
  ·have d1:decide ((k:Int)<(ns.length:Int))=false:=dfq (by omega)
   have he:=qb (f:=fy) hk1 hk2 (.inr (by omega))
   rw [he] at hR
   subst hR
   simp only [go_sem,iNq,ybb,d0,d1,dO]
   (repeat with_reducible refine Yq ?_)
   simp (disch:=first|exact Zd|omega) [↓zmo,beq,ybc,ybd,ybe,ae,wk,wk2,wk1,wkM,wkL,ah,ybf,hcl]
   first|done|repeat first|exact .refl _|refine .push ?_ _
 ·have d0:decide ((k:Int)<(ms.length:Int))=false:=dfq (by omega)
  have he:=qb (f:=fy) hk1 hk2 (.inl (by omega))
  rw [he] at hR
  subst hR
  simp only [go_sem,iNq,ybb,d0,dO]
  (repeat with_reducible refine Yq ?_)
  simp (disch:=first|exact Zd|omega) [↓zmo,beq,ybc,ybd,ybe,ae,wk,wk2,wk1,wkM,wkL,ah,ybf,hcl]
  first|done|repeat first|exact .refl _|refine .push ?_ _
structure COk (e:SEntry):Prop where
 ok:EOk e
 ar:∀ x∈e.args,x<2^128
def As (e f:SEntry):Int:=c6 [jl e.table f.table,jl f.prio e.prio,kD jN e.ms f.ms,jl e.act f.act,kD fy e.args f.args]
def m7:List AV→AHeap→(AV→Prop)→Prop
 |[.agg l,.agg k],_,K=>∃ e f:SEntry,(l=aO e∧k=aO f∧COk e∧COk f)∧K (.int .i64 (As e f))
 |_,_,_=>False
theorem wU:EntOk Tryz.prog 56 (Ent.pure m7):=by
 refine Ype fun _ H K h=>?_
 unfold m7 at h
 split at h
 rotate_left
 ·exact h.elim
 rename_i l k
 obtain ⟨e,f,⟨rfl,rfl,he,hf⟩,hK⟩:=h
 refine ⟨_,hK,?_⟩
 clear hK
 obtain ⟨L,hL⟩:∃ L,L=[jl e.table f.table,jl f.prio e.prio,kD jN e.ms f.ms,jl e.act f.act]:=⟨_,rfl⟩
 have hLl:L.length=4:=by rw [hL];rfl
 have hLi:inL L=[.int .i64 (jl e.table f.table),.int .i64 (jl f.prio e.prio),.int .i64 (kD jN e.ms f.ms),.int .i64 (jl e.act f.act)]:=by rw [hL];rfl
 have hR0:As e f=c6 (L++[kD fy e.args f.args]):=by rw [hL];rfl
 generalize As e f=R at *
 generalize hZ:kD fy e.args f.args=Z at *
 refine ACalls.fW au (tCq eW (tCq zS (tCq At tNq))) Tryz.func56 [.tmp 4] (nrq _) (T:=aq [(1,[[],[],[],[],[1,3],[],[],[],[],[1,3,4,6,8],[],[],[],[],[1,3,4,6,8,9,11,13],[],[],[],[],[1,3,4,6,8,9,11,13,14,16,18],[1,3,4,6,8,9,11,13,14,16,18,19]])]) (h:=fun hcl hlt=>?_)
 clear hlt
 simp only [go_sem,aO,dO,rh]
 (repeat with_reducible refine Yq ?_)
 refine ⟨e.ms,f.ms,⟨rfl,rfl,he.ok.ml,hf.ok.ml,he.ok.mo,hf.ok.mo⟩,?_⟩
 try simp only [a9,aG,bhq,Nat.reduceMod,Nat.reduceDiv,aB,aC,aE,aV,aD,aU,aP,aS,aT,yaq,yar,yao,yap,go_sem]
 obtain ⟨HB,hHB⟩:∃ HB,((H.push (.cells (aO e))).push (.cells (aO f))).push (.buf 1 4)=HB:=⟨_,rfl⟩
 have hclB:HB.Closed:=by
  rw [← hHB]
  exact ag (aa (aa hcl (ltL_iff.2 fun j hj=>AV.lt_cells (ep e) j hj)) (ltL_iff.2 fun j hj=>AV.lt_cells (ep f) j hj))
 have hnB:HB.nx=H.nx+1+1+1:=by rw [← hHB];rfl
 refine az (A:=Nat) (fun k=>[(2,.ptr H.nx 0),(3,.ptr (H.nx+1) 0),(27,.slice .any 1 (inL L)),(28,.int .i64 ((4:Nat):Int)),(29,.int .i64 (k:Int))]) (fun _=>HB) (fun k=>k≤4∧c6 (L.drop k++[Z])=R) (fun k=>4 - k) 0 ⟨by omega,hR0.symm⟩ ?_ fun k hk=>?_
 ·refine ⟨by simp only [hnB,zkq,zkv];omega,by rw [← hHB];exact lRq _,hclB,?_,?_⟩
  ·simp [ltF,hnB,znn,znf,oo]
   omega
  ·rw [hLi]
   simp [aJ,wk2,wk1,wkM,Fr.get]
 clear hR0
 obtain ⟨hk,hR⟩:=hk
 simp only [go_sem]
 refine ai (fun hc=>?_) (fun hc=>?_)
 ·have hk':k<L.length:=by simp at hc;omega
  obtain ⟨x,hx⟩:∃ x,x=L[k]:=⟨_,rfl⟩
  have hd:L.drop k=x::L.drop (k+1):=by rw [hx];exact dcq hk'
  have hg:=aX (f:=AV.int .i64) (l:=L) (k:=k) (x:=x) (by rw [gQq hk',hx])
  have e5:=Yk5 k
  rw [hd,yal] at hR
  unfold c6 at hR
  rw [← hHB]
  simp only [go_sem,aO,iNq,inL,hg,ybb,hLl]
  (repeat with_reducible refine Yq ?_)
  refine ai (fun hq=>?_) (fun hq=>?_)
  ·rw [if_pos hq] at hR
   subst hR
   simp only [go_sem]
   simp (disch:=first|exact Zd|omega) [↓zmo,beq,ybc,ybd,ybe,ae,wk,wk2,wk1,wkM,wkL,ah,ybf,hcl]
   first|done|repeat first|exact .refl _|refine .push ?_ _
  ·rw [if_neg (by rw [hq];decide)] at hR
   simp only [go_sem,e5]
   refine ⟨k+1,⟨by omega,hR⟩,by omega,by simp only [zle];omega,lRq _,by rw [← hHB] at hclB;exact hclB,?_,?_⟩
   ·simp [ltF,zle,znn,znf]
    exact ⟨by omega,oo⟩
   ·simp [aJ,wk2,wk1,wkM,Fr.get]
 ·have hk':k=L.length:=by simp at hc;omega
  subst hk'
  rw [List.drop_length,yak] at hR
  have hz:R=Z:=by rw [← hR];simp only [c6];split<;>simp_all
  subst hz
  rw [← hHB]
  simp only [go_sem,aO,qn]
  refine ⟨e.args,f.args,⟨rfl,rfl,he.ok.al,hf.ok.al,he.ar,hf.ar⟩,?_⟩
  rw [hZ]
  try simp only [go_sem]
  simp (disch:=first|exact Zd|omega) [↓zmo,beq,ybc,ybd,ybe,ae,wk,wk2,wk1,wkM,wkL,ah,ybf,hcl]
  first|done|repeat first|exact .refl _|refine .push ?_ _
theorem mB:∀ {l:List Int},c6 l=0↔∀ x∈l,x=0
 |[]=>by simp [c6]
 |x::l=>by
  have ih:=mB (l:=l)
  unfold c6
  by_cases hx:x=0
  ·subst hx
   simp [ih]
  ·simp [hx]
theorem BN {a b:Int}:jl a b=0↔a=b:=by
 unfold jl
 split
 ·constructor<;>intro h<;>omega
 ·split<;>constructor<;>intro h<;>omega
theorem Cx {a b:Nat}:fy a b=0↔a=b:=by
 unfold fy
 split
 ·simp [*]
 ·split<;>simp [*]
theorem MK {m n:SMatch}:pI m=pI n↔m.present=n.present:=by
 unfold pI
 cases m.present<;>cases n.present<;>simp
theorem HZ {m n:SMatch}:jN m n=0↔m=n:=by
 unfold jN
 rw [mB]
 simp only [List.mem_cons,List.not_mem_nil,or_false,forall_eq_or_imp,forall_eq,BN,Cx,MK]
 obtain ⟨a,b,c,d,e⟩:=m
 obtain ⟨a',b',c',d',e'⟩:=n
 simp
theorem wV {α:Type} {f:α→α→Int} (hf:∀ x y,f x y=0↔x=y):∀ {xs ys:List α},kD f xs ys=0↔xs=ys
 |[],[]=>by simp [kD]
 |[],_::_=>by simp [kD]
 |_::_,[]=>by simp [kD]
 |x::xs,y::ys=>by
  have ih:=wV hf (xs:=xs) (ys:=ys)
  unfold kD
  by_cases h:f x y=0
  ·have:=(hf x y).1 h
   subst this
   rw [if_neg (by simp [h]),ih]
   simp
  ·have hne:x≠y:=fun e=>h ((hf x y).2 e)
   rw [if_pos (by simp [h])]
   simp [h,hne]
theorem cmpE_eq {e f:SEntry}:As e f=0↔e=f:=by
 unfold As
 rw [mB]
 simp only [List.mem_cons,List.not_mem_nil,or_false,forall_eq_or_imp,forall_eq,BN,wV (fun _ _=>HZ),wV (fun _ _=>Cx)]
 obtain ⟨a,b,c,d,e⟩:=e
 obtain ⟨a',b',c',d',e'⟩:=f
 simp only [SEntry.mk.injEq]
 constructor
 ·rintro ⟨h1,h2,h3,h4,h5⟩;exact ⟨h1,h3,h2.symm,h4,h5⟩
 ·rintro ⟨h1,h2,h3,h4,h5⟩;exact ⟨h1,h3.symm,h2,h4,h5⟩
structure TPre {α:Type} (f:α→α→Int):Prop where
 anti:∀ x y,f y x = - f x y
 trans:∀ x y z,f x y≤0→f y z≤0→f x z≤0
theorem TPre.zero {α:Type}:TPre fun _ _:α=>0:=⟨fun _ _=>rfl,fun _ _ _ _ _=>by decide⟩
theorem zy:ti Tryz.prog 56=some ⟨.slice 26,1,24,.slice .nil 1 []⟩:=by kernel_rfl
theorem Eq:ti Tryz.prog 26=some ⟨.struct [(0,3,false),(1,23,false),(2,3,false),(3,3,false),(4,24,false)],5,72,.agg [.int .i64 0,.slice .nil 1 [],.int .i64 0,.int .i64 0,.slice .nil 1 []]⟩:=by kernel_rfl
attribute [go_sem] zy Eq
def dT (S:Sch) (b:List UInt8):Nat→Nat→List SEntry × Nat
 |0,v=>([],v)
 |k+1,v=>if v<b.length then ((eK S b (v+1) ((cv b v 4:Nat):Int)).1::(dT S b k (eK S b (v+1) ((cv b v 4:Nat):Int)).2).1,(dT S b k (eK S b (v+1) ((cv b v 4:Nat):Int)).2).2) else ([],v)
theorem rM {S:Sch} (hG:GenS S) {b:List UInt8}:∀ (k v:Nat),(dT S b k v).1.length≤k∧∀ e∈(dT S b k v).1,∃ m,GE S (dd S m) e
 |0,v=>⟨nrq _,by simp [dT]⟩
 |k+1,v=>by
  obtain ⟨i1,i2⟩:=rM hG (b:=b) k (eK S b (v+1) ((cv b v 4:Nat):Int)).2
  unfold dT
  split
  ·refine ⟨by simp only [yaz];omega,fun e he=>?_⟩
   rcases List.mem_cons.1 he with rfl|he
   ·exact ⟨_,Du hG⟩
   ·exact i2 e he
  ·exact ⟨by simp,by simp⟩
theorem Cn {i j:Nat} {es:List SEntry} (h:i<j:=by omega):AV.lt j (.slice (.own i) 5 (es.map cD)):=by
 rw [aA]
 refine ⟨fun k e=>(by cases e;exact h),ltL_iff.2 fun k hk=>?_⟩
 obtain ⟨x,_,e⟩:=List.mem_map.1 (gMq hk)
 rw [← e];exact ep x
def oG:List AV→AHeap→(AEnd→AHeap→Prop)→Prop
 |[.ptr id 0,.agg l,.int .i64 n],H,K=>∃ S:Sch,(l=aN S∧GenS S∧0≤n∧n≤1000)∧onC (H.get id) fun b v=>∀ (es:List SEntry) (w:Nat),(es.length:Int)≤n→(∀ e∈es,∃ m,GE S (dd S m) e)→K (.ret (.slice (.own (H.nx+1+1)) 5 (es.map cD))) ((((H.set id (cJ b w)).push (.cells (aN S))).push (.buf 5 0)).push (.buf 5 es.length))
 |_,_,_=>False
theorem yW:EntOk Tryz.prog 16 (Ent.effect oG):=by
 refine EntOk.effect fun args H K h=>?_
 unfold oG at h
 split at h
 rotate_left
 ·exact h.elim
 rename_i id l n
 obtain ⟨S,⟨rfl,hG,hn0,hn1⟩,h⟩:=h
 obtain ⟨b,v,hg,hb,hv,hK⟩:=gV h
 obtain ⟨o1,o2⟩:=rM hG (b:=b) n.toNat v
 obtain ⟨R,hRd⟩:∃ R,dT S b n.toNat v=R:=⟨_,rfl⟩
 rw [hRd] at o1 o2
 refine ⟨_,_,hK R.1 R.2 (by omega) o2,?_⟩
 clear hK h
 have nxE:H.nx≤((((H.set id (cJ b R.2)).push (.cells (aN S))).push (.buf 5 0)).push (.buf 5 R.1.length)).nx:=by simp only [zle,zlf];omega
 refine ACalls.fW au (tCq zq (tCq ic (tCq Eo tNq))) Tryz.func16 [.tmp 6] nxE (T:=aq [(3,[[],[],[],[],[],[2,4],[2,4,5],[2,4,5]])]) (h:=fun hcl hlt=>?_)
 clear hlt
 have hid:=glq hg
 have hne:=lW hid
 have hne2:=lW (show id<H.nx+1+1+1 by omega)
 have hgc:=jd (b:=b) hid
 have hcl2:∀ w,(H.set id (cJ b w)).Closed:=fun w=>aj hcl fe
 simp only [a9,aG,bhq,Nat.reduceMod,Nat.reduceDiv,aB,aC,aE,aV,aD,aU,aP,aS,aT,yaq,yar,yao,yap,go_sem]
 obtain ⟨HL,hHL⟩:∃ HL:Nat→Nat→AHeap,HL=fun w k=>(((H.set id (cJ b w)).push (.cells (aN S))).push (.buf 5 0)).push (.buf 5 k):=⟨_,rfl⟩
 have hclL:∀ w k,(HL w k).Closed:=fun w k=>by
  rw [hHL]
  exact ag (ag (aa (hcl2 w) (ltL_iff.2 fun j hj=>AV.lt_cells (ot S) j hj)))
 refine az (A:=List SEntry × Nat) (fun x=>[(0,.ptr id 0),(2,.int .i64 n),(4,.ptr H.nx 0),(7,.slice (.own (H.nx+1+1)) 5 (x.1.map cD))]) (fun x=>HL x.2 x.1.length) (fun x=>x.1.length≤n.toNat∧x.1++(dT S b (n.toNat - x.1.length) x.2).1=R.1∧(dT S b (n.toNat - x.1.length) x.2).2=R.2) (fun x=>n.toNat - x.1.length) ([],v) ⟨by simp,by rw [← hRd];rfl,by rw [← hRd];rfl⟩ ?_ fun x hx=>?_
 ·rw [hHL]
  refine ⟨by simp only [zle,zlf,zkq,zkv];omega,by dsimp only;rw [show cJ b v=cJ b (cp v 0) from rfl,vH hg];exact lRq _,by have:=hclL v 0;rw [hHL] at this;exact this,?_,?_⟩
  ·simp [ltF,zle,zlf,znn,znf,aA,znv]
   omega
  ·simp [aJ,wk2,wk1,wkM,Fr.get]
 obtain ⟨es,w⟩:=x
 obtain ⟨hx1,hx2,hx3⟩:=hx
 dsimp only at hx1 hx2 hx3 ⊢
 rw [hHL]
 dsimp only
 by_cases hlt:es.length<n.toNat
 ·have d1:decide ((es.length:Int)<n)=true:=dtq (by omega)
  simp only [a9,aG,bhq,Nat.reduceMod,Nat.reduceDiv,aB,aC,aE,aV,aD,aU,aP,aS,aT,yaq,yar,yao,yap,go_sem,aN,hg,hgc,hne,hne2,aW,me,pL,ybb,iNq,d1]
  refine ⟨b,((min w b.length:Nat):Int),rfl,?_⟩
  by_cases hw:w<b.length
  ·have d2:decide (((min w b.length:Nat):Int)<(b.length:Int))=true:=dtq (by omega)
   have hk:n.toNat - es.length=(n.toNat - (es.length+1))+1:=by omega
   rw [hk] at hx2 hx3
   simp only [dT,if_pos hw] at hx2 hx3
   have hst:∀ m v,(pR S m b v)=(cD (eK S b v m).1,(eK S b v m).2):=fun _ _=>rfl
   have e4:(4:Int).toNat=4:=rfl
   have hcv:=dq (b:=b) (v:=w) (n:=4) (by decide)
   have e4':(1≤(4:Int)∧(4:Int)≤1000000)=True:=by simp
   simp only [a9,aG,bhq,Nat.reduceMod,Nat.reduceDiv,aB,aC,aE,aV,aD,aU,aP,aS,aT,yaq,yar,yao,yap,go_sem,aN,hg,hgc,hne,hne2,aW,aR hb,cn hb (yY _ _),bm,aK,bv,cp0,ybb,iNq,d2,e4,e4',me]
   refine ⟨S,⟨rfl,hG,by omega,by omega⟩,?_⟩
   simp only [a9,aG,bhq,Nat.reduceMod,Nat.reduceDiv,aB,aC,aE,aV,aD,aU,aP,aS,aT,yaq,yar,yao,yap,go_sem,aN,hg,hgc,hne,hne2,hst,cD,aO,cp0,ybb,iNq]
   have hsub:n.toNat - (es.length+1)=n.toNat - (es++[(eK S b (w+1) ((cv b w 4:Nat):Int)).1]).length:=by simp
   rw [hsub] at hx2 hx3
   have hcl1:=hclL (eK S b (w+1) ((cv b w 4:Nat):Int)).2 (es.length+1)
   rw [hHL] at hcl1
   have hlm:∀ j,AV.lt j (.slice (.own (H.nx+1+1)) 5 (es.map cD++[cD (eK S b (w+1) ((cv b w 4:Nat):Int)).1]))=(H.nx+1+1<j):=fun j=>by
    rw [aA]
    refine propext ⟨fun h=>h.1 _ rfl,fun h=>⟨fun i e=>(by cases e;exact h),ltL_iff.2 fun i hi=>?_⟩⟩
    have:=gMq hi
    rw [List.mem_append,List.mem_map,List.mem_singleton] at this
    rcases this with ⟨x,_,e⟩|e
    ·rw [← e];exact ep x
    ·rw [e];exact ep _
   refine ⟨⟨by omega,by omega,fun z hz=>by rw [List.mem_singleton.1 hz];rfl⟩,(es++[(eK S b (w+1) ((cv b w 4:Nat):Int)).1],(eK S b (w+1) ((cv b w 4:Nat):Int)).2),⟨by simp;omega,by rw [List.append_assoc];exact hx2,hx3⟩,by simp;omega,?_⟩
   dsimp only
   rw [List.map_append,yae,yaf,lAq,yaz,yba,nzq]
   refine ⟨by simp only [zle,zlf,zkv,zkq,fV];omega,by repeat first|exact .refl _|refine .push ?_ _,hcl1,?_,?_⟩
   ·simp only [ltF,zle,zlf,znn,znf,hlm]
    refine ⟨by omega,trivial,by omega,by omega,trivial⟩
   ·simp [aJ,wk2,wk1,wkM,Fr.get,cD,aO]
  ·have d2:decide (((min w b.length:Nat):Int)<(b.length:Int))=false:=dfq (by omega)
   have hx2':es=R.1:=by
    rw [← hx2]
    cases h:n.toNat - es.length with
    |zero=>simp [dT]
    |succ k=>simp [dT,hw]
   have hx3':w=R.2:=by
    rw [← hx3]
    cases h:n.toNat - es.length with
    |zero=>simp [dT]
    |succ k=>simp [dT,hw]
   rw [← hx2',← hx3']
   simp only [a9,aG,bhq,Nat.reduceMod,Nat.reduceDiv,aB,aC,aE,aV,aD,aU,aP,aS,aT,yaq,yar,yao,yap,go_sem,aN,hg,hgc,hne,hne2,aW,aR hb,cn hb (yY _ _),bm,aK,bv,cp0,ybb,iNq,d2]
   have hce:=hclL w es.length
   rw [hHL] at hce
   simp only [aN] at hce
   simp (disch:=first|exact Zd|omega) [↓zmo,beq,ybc,ybd,ybe,ae,wk,wk2,wk1,wkM,wkL,ah,ybf,hcl2,hce]
   exact Cn
 ·have d1:decide ((es.length:Int)<n)=false:=dfq (by omega)
  have h0:n.toNat - es.length=0:=by omega
  rw [h0] at hx2 hx3
  simp only [dT,yaj] at hx2 hx3
  simp only [a9,aG,bhq,Nat.reduceMod,Nat.reduceDiv,aB,aC,aE,aV,aD,aU,aP,aS,aT,yaq,yar,yao,yap,go_sem,aN,hg,hgc,hne,hne2,aW,me,pL,ybb,iNq,d1]
  rw [← hx2,← hx3]
  have hce:=hclL w es.length
  rw [hHL] at hce
  simp only [aN] at hce
  simp (disch:=first|exact Zd|omega) [↓zmo,beq,ybc,ybd,ybe,ae,wk,wk2,wk1,wkM,wkL,ah,ybf,hcl2,hce]
  exact Cn
end Go.AL
