/- Lemmas of the proof; no condition. -/
import Derived.Test.YtjnhidpnfdbmaaaGreatS10r
import Derived.Test.YtjnhidpnfdbmaaaGreatS10p
set_option linter.all false
set_option maxRecDepth 10000
set_option maxHeartbeats 32000000
open List renaming length_cons → yaz, length_nil → yba, take_of_length_le → ybc, drop_append → ybd, take_append → ybe, drop_eq_nil_of_le → ybf, cons_append → yal, nil_append → yak, length_map → ybb, take_succ_cons → yaq, take_zero → yar, drop_succ_cons → yao, drop_zero → yap
open Go Go.AL Go.Proofs
namespace Go.AL
def Lf (S:Sch) (n:Int):Prop:=0≤ixP (fun f:SField=>f.id==n) S.fields 0
def jk (a b:Int):Int:=if a<b then -1 else if b<a then 1 else 0
def cZ:List Int→Int
 |[]=>0
 |x::xs=>if (x != 0)=true then x else cZ xs
theorem C9 {a b:Int}:(jk a b != 0)=(a != b):=by
 unfold jk
 split
 ·have:a≠b:=by omega
  simp [this]
 ·split
  ·have:a≠b:=by omega
   simp [this]
  ·have:a=b:=by omega
   simp [this]
def pI (m:SMatch):Int:=if m.present=true then 1 else 0
def jQ (m n:SMatch):Int:=cZ [jk (pI m) (pI n),fq m.value n.value,fq m.mask n.mask,jk m.pfx n.pfx,fq m.high n.high]
theorem wr {a:Int}:jk a a=0:=by simp [jk]
theorem vy {a:Nat}:fq a a=0:=by simp [fq]
def dJ:List AV→AHeap→(AV→Prop)→Prop
 |[.int .i64 a,.int .i64 b],_,K=>K (.int .i64 (jk a b))
 |_,_,_=>False
theorem eV:EntOk Tryz.prog 95 (Ent.pure dJ):=by
 refine Ype fun _ H K h=>?_
 unfold dJ at h
 split at h
 rotate_left
 ·exact h.elim
 rename_i a b
 refine ⟨_,h,?_⟩
 clear h
 unfold jk
 by_cases h1:a<b
 ·rw [if_pos h1]
  have d1:decide (a<b)=true:=dtq h1
  refine ACalls.fW au tNq Tryz.func95 [.tmp 4] (nrq _) (T:=aq []) (h:=fun hcl hlt=>?_)
  clear hlt
  simp only [go_sem,d1]
  exact Z0
 ·rw [if_neg h1]
  have d1:decide (a<b)=false:=dfq h1
  by_cases h2:b<a
  ·rw [if_pos h2]
   have d2:decide (a > b)=true:=dtq h2
   refine ACalls.fW au tNq Tryz.func95 [.tmp 4] (nrq _) (T:=aq []) (h:=fun hcl hlt=>?_)
   clear hlt
   simp only [go_sem,d1,d2]
   exact Z0
  ·rw [if_neg h2]
   have d2:decide (a > b)=false:=dfq h2
   refine ACalls.fW au tNq Tryz.func95 [.tmp 4] (nrq _) (T:=aq []) (h:=fun hcl hlt=>?_)
   clear hlt
   simp only [go_sem,d1,d2]
   exact Z0
def tx:List AV→AHeap→(AV→Prop)→Prop
 |[.agg l,.agg k],_,K=>∃ m n:SMatch,(l=bq m∧k=bq n∧MOk m∧MOk n)∧K (.int .i64 (jQ m n))
 |_,_,_=>False
theorem mQ {a:Int} {l:List Int}:cZ (a::l)=if (a != 0)=true then a else cZ l:=rfl
theorem vf {x y:Nat}:(fq x y != 0)=!decide (x=y):=by
 unfold fq
 split
 ·simp_all
 ·split<;>simp_all
theorem Eu:EntOk Tryz.prog 135 (Ent.pure tx):=by
 refine Ype fun _ H K h=>?_
 unfold tx at h
 split at h
 rotate_left
 ·exact h.elim
 rename_i l k
 obtain ⟨m,n,⟨rfl,rfl,⟨v1,k1,g1⟩,⟨v2,k2,g2⟩⟩,hK⟩:=h
 refine ⟨_,hK,?_⟩
 clear hK
 have i1:=gS v1
 have i2:=gS v2
 have i3:=gS k1
 have i4:=gS k2
 have i5:=gS g1
 have i6:=gS g2
 by_cases hp:m.present=n.present
 ·have dp:(m.present==n.present)=true:=by simp [hp]
  have c0:jk (pI m) (pI n)=0:=by unfold pI;rw [hp];exact wr
  by_cases hv:m.value=n.value
  ·have dv:decide (m.value=n.value)=true:=dtq hv
   have c1:fq m.value n.value=0:=by rw [hv];exact vy
   by_cases hm:m.mask=n.mask
   ·have dm:decide (m.mask=n.mask)=true:=dtq hm
    have c2:fq m.mask n.mask=0:=by rw [hm];exact vy
    by_cases hf:m.pfx=n.pfx
    ·have df:(m.pfx != n.pfx)=false:=by simp [hf]
     have c3:jk m.pfx n.pfx=0:=by rw [hf];exact wr
     have e:jQ m n=fq m.high n.high:=by unfold jQ;rw [c0,c1,c2,c3];simp only [cZ];split<;>simp_all
     rw [e]
     refine ACalls.fW au (tCq fw (tCq eV tNq)) Tryz.func135 [.tmp 4] (nrq _) (T:=aq []) (h:=fun hcl hlt=>?_)
     clear hlt
     simp only [go_sem,bq,vc,yal,yak,dp,dv,dm,df,gE,fo,cN,cM,Bool.bne_true,Bool.not_true,Bool.not_false,eW,dJ,p2V,i1,i2,i3,i4,i5,i6,iNq,cu]
     try simp (disch:=first|exact Zd|omega) [↓zmo,beq,ybc,ybd,ybe,ae,wk,wk2,wk1,wkM,wkL,ah,ybf,hcl]
     first|done|repeat first|exact .refl _|refine .push ?_ _
    ·have df:(m.pfx != n.pfx)=true:=by simp [hf]
     have c3:(jk m.pfx n.pfx != 0)=true:=by rw [C9];exact df
     have e:jQ m n=jk m.pfx n.pfx:=by unfold jQ;rw [c0,c1,c2];simp only [mQ,c3];rfl
     rw [e]
     refine ACalls.fW au (tCq fw (tCq eV tNq)) Tryz.func135 [.tmp 4] (nrq _) (T:=aq []) (h:=fun hcl hlt=>?_)
     clear hlt
     simp only [go_sem,bq,vc,yal,yak,dp,dv,dm,df,gE,fo,cN,cM,Bool.bne_true,Bool.not_true,Bool.not_false,eW,dJ,p2V,i1,i2,i3,i4,i5,i6,iNq,cu]
     try simp (disch:=first|exact Zd|omega) [↓zmo,beq,ybc,ybd,ybe,ae,wk,wk2,wk1,wkM,wkL,ah,ybf,hcl]
     first|done|repeat first|exact .refl _|refine .push ?_ _
   ·have dm:decide (m.mask=n.mask)=false:=dfq hm
    have c2:(fq m.mask n.mask != 0)=true:=by rw [vf,dm];rfl
    have e:jQ m n=fq m.mask n.mask:=by unfold jQ;rw [c0,c1];simp only [mQ,c2];rfl
    rw [e]
    refine ACalls.fW au (tCq fw (tCq eV tNq)) Tryz.func135 [.tmp 4] (nrq _) (T:=aq []) (h:=fun hcl hlt=>?_)
    clear hlt
    simp only [go_sem,bq,vc,yal,yak,dp,dv,dm,gE,fo,cN,cM,Bool.bne_true,Bool.not_true,Bool.not_false,eW,dJ,p2V,i1,i2,i3,i4,i5,i6,iNq,cu]
    try simp (disch:=first|exact Zd|omega) [↓zmo,beq,ybc,ybd,ybe,ae,wk,wk2,wk1,wkM,wkL,ah,ybf,hcl]
    first|done|repeat first|exact .refl _|refine .push ?_ _
  ·have dv:decide (m.value=n.value)=false:=dfq hv
   have c1:(fq m.value n.value != 0)=true:=by rw [vf,dv];rfl
   have e:jQ m n=fq m.value n.value:=by unfold jQ;rw [c0];simp only [mQ,c1];rfl
   rw [e]
   refine ACalls.fW au (tCq fw (tCq eV tNq)) Tryz.func135 [.tmp 4] (nrq _) (T:=aq []) (h:=fun hcl hlt=>?_)
   clear hlt
   simp only [go_sem,bq,vc,yal,yak,dp,dv,gE,fo,cN,cM,Bool.bne_true,Bool.not_true,Bool.not_false,eW,dJ,p2V,i1,i2,i3,i4,i5,i6,iNq,cu]
   try simp (disch:=first|exact Zd|omega) [↓zmo,beq,ybc,ybd,ybe,ae,wk,wk2,wk1,wkM,wkL,ah,ybf,hcl]
   first|done|repeat first|exact .refl _|refine .push ?_ _
 ·have dp:(m.present==n.present)=false:=by simp [hp]
  cases hn:n.present
  ·have hm:m.present=true:=by
    cases h:m.present with
    |true=>rfl
    |false=>exact absurd (h.trans hn.symm) hp
   have e:jQ m n=1:=by unfold jQ pI;rw [hm,hn];rfl
   rw [e]
   refine ACalls.fW au (tCq fw (tCq eV tNq)) Tryz.func135 [.tmp 4] (nrq _) (T:=aq []) (h:=fun hcl hlt=>?_)
   clear hlt
   simp only [go_sem,bq,vc,yal,yak,hm,hn,show (true != false)=true from rfl,show (false != true)=true from rfl,show (true==false)=false from rfl,show (false==true)=false from rfl,gE,fo,cN,cM,Bool.bne_true,Bool.not_true,Bool.not_false,eW,dJ,p2V,i1,i2,i3,i4,i5,i6,iNq,cu]
   try simp (disch:=first|exact Zd|omega) [↓zmo,beq,ybc,ybd,ybe,ae,wk,wk2,wk1,wkM,wkL,ah,ybf,hcl]
   first|done|repeat first|exact .refl _|refine .push ?_ _
  ·have hm:m.present=false:=by
    cases h:m.present with
    |false=>rfl
    |true=>exact absurd (h.trans hn.symm) hp
   have e:jQ m n = -1:=by unfold jQ pI;rw [hm,hn];rfl
   rw [e]
   refine ACalls.fW au (tCq fw (tCq eV tNq)) Tryz.func135 [.tmp 4] (nrq _) (T:=aq []) (h:=fun hcl hlt=>?_)
   clear hlt
   simp only [go_sem,bq,vc,yal,yak,hm,hn,show (true != false)=true from rfl,show (false != true)=true from rfl,show (true==false)=false from rfl,show (false==true)=false from rfl,gE,fo,cN,cM,Bool.bne_true,Bool.not_true,Bool.not_false,eW,dJ,p2V,i1,i2,i3,i4,i5,i6,iNq,cu]
   try simp (disch:=first|exact Zd|omega) [↓zmo,beq,ybc,ybd,ybe,ae,wk,wk2,wk1,wkM,wkL,ah,ybf,hcl]
   first|done|repeat first|exact .refl _|refine .push ?_ _
theorem yR:ti Tryz.prog 23=some ⟨.slice 47,1,24,.slice .nil 1 []⟩:=by kernel_rfl
theorem Ae:ti Tryz.prog 24=some ⟨.slice 29,1,24,.slice .nil 1 []⟩:=by kernel_rfl
theorem DZ:ti Tryz.prog 47=some ⟨.struct [(0,4,false),(1,29,false),(3,29,false),(5,3,false),(6,29,false)],8,64,.agg [.bool false,.int .u64 0,.int .u64 0,.int .u64 0,.int .u64 0,.int .i64 0,.int .u64 0,.int .u64 0]⟩:=by kernel_rfl
attribute [go_sem] yR Ae DZ
def kv {α:Type} (f:α→α→Int):List α→List α→Int
 |[],[]=>0
 |[],_::_ => -1
 |_::_,[]=>1
 |x::xs,y::ys=>if (f x y != 0)=true then f x y else kv f xs ys
theorem ph {α:Type} {f:α→α→Int}:∀ {xs ys:List α} {k:Nat},k≤xs.length→k≤ys.length→(k=xs.length∨k=ys.length)→kv f (xs.drop k) (ys.drop k)=jk xs.length ys.length:=by
 intro xs ys k h1 h2 h
 have e1:(xs.drop k).length=xs.length - k:=List.length_drop ..
 have e2:(ys.drop k).length=ys.length - k:=List.length_drop ..
 generalize xs.drop k=a at *
 generalize ys.drop k=b at *
 unfold jk
 cases a with
 |nil =>
  cases b with
  |nil =>
   simp only [yba] at e1 e2
   rw [if_neg (by omega),if_neg (by omega)];rfl
  |cons y ys' =>
   simp only [yba,yaz] at e1 e2
   rw [if_pos (by omega)];rfl
 |cons x xs' =>
  cases b with
  |nil =>
   simp only [yba,yaz] at e1 e2
   rw [if_neg (by omega),if_pos (by omega)];rfl
  |cons y ys' =>
   simp only [yaz] at e1 e2
   omega
def qS:List AV→AHeap→(AV→Prop)→Prop
 |[.slice _ 8 l,.slice _ 8 k],_,K=>∃ ms ns:List SMatch,(l=ms.map aI∧k=ns.map aI∧ms.length≤140737488355328∧ns.length≤140737488355328∧(∀ x∈ms,MOk x)∧∀ x∈ns,MOk x)∧K (.int .i64 (kv jQ ms ns))
 |_,_,_=>False
theorem zK:EntOk Tryz.prog 96 (Ent.pure qS):=by
 refine Ype fun _ H K h=>?_
 unfold qS at h
 split at h
 rotate_left
 ·exact h.elim
 rename_i m1 l m2 k
 obtain ⟨ms,ns,⟨rfl,rfl,hl1,hl2,ho1,ho2⟩,hK⟩:=h
 refine ⟨_,hK,?_⟩
 clear hK
 generalize hR:kv jQ ms ns=R
 refine ACalls.fW au (tCq Eu (tCq eV tNq)) Tryz.func96 [.tmp 4] (nrq _) (T:=aq [(4,[[],[],[],[],[],[],[],[],[3,7]])]) (h:=fun hcl hlt=>?_)
 have hm1:AV.lt H.nx (.slice m1 8 (ms.map aI)):=hlt _ (by simp)
 have hm2:AV.lt H.nx (.slice m2 8 (ns.map aI)):=hlt _ (by simp)
 clear hlt
 simp only [go_sem,ybb]
 refine az (A:=Nat) (fun k=>[(0,.slice m1 8 (ms.map aI)),(1,.slice m2 8 (ns.map aI)),(5,.int .i64 (k:Int))]) (fun _=>H) (fun k=>k≤ms.length∧k≤ns.length∧kv jQ (ms.drop k) (ns.drop k)=R) (fun k=>ms.length - k) 0 ⟨by omega,by omega,hR⟩ ?_ fun k hk=>?_
 ·refine ⟨nrq _,lRq _,hcl,?_,?_⟩
  ·simp [ltF,znf,hm1,hm2]
  ·simp [aJ,wk2,wk1,wkM,Fr.get]
 clear hR
 obtain ⟨hk1,hk2,hR⟩:=hk
 by_cases hk':k<ms.length
 ·have d0:decide ((k:Int)<(ms.length:Int))=true:=dtq (by omega)
  obtain ⟨x,hx⟩:∃ x,x=ms[k]:=⟨_,rfl⟩
  have hd:ms.drop k=x::ms.drop (k+1):=by rw [hx];exact dcq hk'
  have hg:=aU (f:=aI) (l:=ms) (k:=k) (x:=x) (by rw [gQq hk',hx])
  have e5:=Yk5 k
  have hox:=ho1 x (by rw [hx];exact gMq hk')
  by_cases hk3:k<ns.length
  ·have d1:decide ((k:Int)<(ns.length:Int))=true:=dtq (by omega)
   obtain ⟨y,hy⟩:∃ y,y=ns[k]:=⟨_,rfl⟩
   have hd2:ns.drop k=y::ns.drop (k+1):=by rw [hy];exact dcq hk3
   have hg2:=aU (f:=aI) (l:=ns) (k:=k) (x:=y) (by rw [gQq hk3,hy])
   have hoy:=ho2 y (by rw [hy];exact gMq hk3)
   rw [hd,hd2] at hR
   unfold kv at hR
   skip
   simp only [go_sem,iNq,ybb,hg,hg2,d0,d1,aI,bq,vc,yal,yak,tx]
   (repeat with_reducible refine Yq ?_)
   refine ⟨x,y,⟨rfl,rfl,hox,hoy⟩,?_⟩
   try simp only [aZ,aH,bhq,Nat.reduceMod,Nat.reduceDiv,aC,aB,aE,aS,aD,aR,aO,aP,aQ,yaq,yar,yao,yap,go_sem,ybb]
   refine ai (fun hq=>?_) (fun hq=>?_)
   ·rw [if_pos hq] at hR
    subst hR
    simp only [go_sem]
    simp (disch:=first|exact Zd|omega) [↓zmo,beq,ybc,ybd,ybe,ae,wk,wk2,wk1,wkM,wkL,ah,ybf,hcl]
    first|done|repeat first|exact .refl _|refine .push ?_ _
   ·rw [if_neg (by rw [hq];decide)] at hR
    simp only [go_sem,e5]
    refine ⟨k+1,⟨by omega,by omega,hR⟩,by omega,nrq _,by repeat first|exact .refl _|refine .push ?_ _,hcl,?_,?_⟩
    ·simp [ltF,znf,hm1,hm2]
    ·simp [aJ,wk2,wk1,wkM,Fr.get]
  ·have d1:decide ((k:Int)<(ns.length:Int))=false:=dfq (by omega)
   have he:=ph (f:=jQ) hk1 hk2 (.inr (by omega))
   rw [he] at hR
   subst hR
   simp only [go_sem,iNq,ybb,d0,d1,dJ]
   (repeat with_reducible refine Yq ?_)
   simp (disch:=first|exact Zd|omega) [↓zmo,beq,ybc,ybd,ybe,ae,wk,wk2,wk1,wkM,wkL,ah,ybf,hcl]
   first|done|repeat first|exact .refl _|refine .push ?_ _
 ·have d0:decide ((k:Int)<(ms.length:Int))=false:=dfq (by omega)
  have he:=ph (f:=jQ) hk1 hk2 (.inl (by omega))
  rw [he] at hR
  subst hR
  simp only [go_sem,iNq,ybb,d0,dJ]
  (repeat with_reducible refine Yq ?_)
  simp (disch:=first|exact Zd|omega) [↓zmo,beq,ybc,ybd,ybe,ae,wk,wk2,wk1,wkM,wkL,ah,ybf,hcl]
  first|done|repeat first|exact .refl _|refine .push ?_ _
def qw:List AV→AHeap→(AV→Prop)→Prop
 |[.slice _ 2 l,.slice _ 2 k],_,K=>∃ ms ns:List Nat,(l=ms.map vv∧k=ns.map vv∧ms.length≤140737488355328∧ns.length≤140737488355328∧(∀ x∈ms,x<2^128)∧∀ x∈ns,x<2^128)∧K (.int .i64 (kv fq ms ns))
 |_,_,_=>False
theorem AK:EntOk Tryz.prog 97 (Ent.pure qw):=by
 refine Ype fun _ H K h=>?_
 unfold qw at h
 split at h
 rotate_left
 ·exact h.elim
 rename_i m1 l m2 k
 obtain ⟨ms,ns,⟨rfl,rfl,hl1,hl2,ho1,ho2⟩,hK⟩:=h
 refine ⟨_,hK,?_⟩
 clear hK
 generalize hR:kv fq ms ns=R
 refine ACalls.fW au (tCq fw (tCq eV tNq)) Tryz.func97 [.tmp 4] (nrq _) (T:=aq [(4,[[],[],[],[],[],[],[],[],[3,7]])]) (h:=fun hcl hlt=>?_)
 have hm1:AV.lt H.nx (.slice m1 2 (ms.map vv)):=hlt _ (by simp)
 have hm2:AV.lt H.nx (.slice m2 2 (ns.map vv)):=hlt _ (by simp)
 clear hlt
 simp only [go_sem,ybb]
 refine az (A:=Nat) (fun k=>[(0,.slice m1 2 (ms.map vv)),(1,.slice m2 2 (ns.map vv)),(5,.int .i64 (k:Int))]) (fun _=>H) (fun k=>k≤ms.length∧k≤ns.length∧kv fq (ms.drop k) (ns.drop k)=R) (fun k=>ms.length - k) 0 ⟨by omega,by omega,hR⟩ ?_ fun k hk=>?_
 ·refine ⟨nrq _,lRq _,hcl,?_,?_⟩
  ·simp [ltF,znf,hm1,hm2]
  ·simp [aJ,wk2,wk1,wkM,Fr.get]
 clear hR
 obtain ⟨hk1,hk2,hR⟩:=hk
 by_cases hk':k<ms.length
 ·have d0:decide ((k:Int)<(ms.length:Int))=true:=dtq (by omega)
  obtain ⟨x,hx⟩:∃ x,x=ms[k]:=⟨_,rfl⟩
  have hd:ms.drop k=x::ms.drop (k+1):=by rw [hx];exact dcq hk'
  have hg:=aU (f:=vv) (l:=ms) (k:=k) (x:=x) (by rw [gQq hk',hx])
  have e5:=Yk5 k
  have hox:=ho1 x (by rw [hx];exact gMq hk')
  by_cases hk3:k<ns.length
  ·have d1:decide ((k:Int)<(ns.length:Int))=true:=dtq (by omega)
   obtain ⟨y,hy⟩:∃ y,y=ns[k]:=⟨_,rfl⟩
   have hd2:ns.drop k=y::ns.drop (k+1):=by rw [hy];exact dcq hk3
   have hg2:=aU (f:=vv) (l:=ns) (k:=k) (x:=y) (by rw [gQq hk3,hy])
   have hoy:=ho2 y (by rw [hy];exact gMq hk3)
   rw [hd,hd2] at hR
   unfold kv at hR
   have ix:=gS hox
   have iy:=gS hoy
   simp only [go_sem,iNq,ybb,hg,hg2,d0,d1,vv,vc,eW,p2V,ix,iy,iNq,cu]
   (repeat with_reducible refine Yq ?_)
   try simp only [aZ,aH,bhq,Nat.reduceMod,Nat.reduceDiv,aC,aB,aE,aS,aD,aR,aO,aP,aQ,yaq,yar,yao,yap,go_sem,ybb]
   refine ai (fun hq=>?_) (fun hq=>?_)
   ·rw [if_pos hq] at hR
    subst hR
    simp only [go_sem]
    simp (disch:=first|exact Zd|omega) [↓zmo,beq,ybc,ybd,ybe,ae,wk,wk2,wk1,wkM,wkL,ah,ybf,hcl]
    first|done|repeat first|exact .refl _|refine .push ?_ _
   ·rw [if_neg (by rw [hq];decide)] at hR
    simp only [go_sem,e5]
    refine ⟨k+1,⟨by omega,by omega,hR⟩,by omega,nrq _,by repeat first|exact .refl _|refine .push ?_ _,hcl,?_,?_⟩
    ·simp [ltF,znf,hm1,hm2]
    ·simp [aJ,wk2,wk1,wkM,Fr.get]
  ·have d1:decide ((k:Int)<(ns.length:Int))=false:=dfq (by omega)
   have he:=ph (f:=fq) hk1 hk2 (.inr (by omega))
   rw [he] at hR
   subst hR
   simp only [go_sem,iNq,ybb,d0,d1,dJ]
   (repeat with_reducible refine Yq ?_)
   simp (disch:=first|exact Zd|omega) [↓zmo,beq,ybc,ybd,ybe,ae,wk,wk2,wk1,wkM,wkL,ah,ybf,hcl]
   first|done|repeat first|exact .refl _|refine .push ?_ _
 ·have d0:decide ((k:Int)<(ms.length:Int))=false:=dfq (by omega)
  have he:=ph (f:=fq) hk1 hk2 (.inl (by omega))
  rw [he] at hR
  subst hR
  simp only [go_sem,iNq,ybb,d0,dJ]
  (repeat with_reducible refine Yq ?_)
  simp (disch:=first|exact Zd|omega) [↓zmo,beq,ybc,ybd,ybe,ae,wk,wk2,wk1,wkM,wkL,ah,ybf,hcl]
  first|done|repeat first|exact .refl _|refine .push ?_ _
structure COk (e:SEntry):Prop where
 ok:EOk e
 ar:∀ x∈e.args,x<2^128
def zX (e f:SEntry):Int:=cZ [jk e.table f.table,jk f.prio e.prio,kv jQ e.ms f.ms,jk e.act f.act,kv fq e.args f.args]
def mN:List AV→AHeap→(AV→Prop)→Prop
 |[.agg l,.agg k],_,K=>∃ e f:SEntry,(l=aK e∧k=aK f∧COk e∧COk f)∧K (.int .i64 (zX e f))
 |_,_,_=>False
theorem xL:EntOk Tryz.prog 56 (Ent.pure mN):=by
 refine Ype fun _ H K h=>?_
 unfold mN at h
 split at h
 rotate_left
 ·exact h.elim
 rename_i l k
 obtain ⟨e,f,⟨rfl,rfl,he,hf⟩,hK⟩:=h
 refine ⟨_,hK,?_⟩
 clear hK
 obtain ⟨L,hL⟩:∃ L,L=[jk e.table f.table,jk f.prio e.prio,kv jQ e.ms f.ms,jk e.act f.act]:=⟨_,rfl⟩
 have hLl:L.length=4:=by rw [hL];rfl
 have hLi:inL L=[.int .i64 (jk e.table f.table),.int .i64 (jk f.prio e.prio),.int .i64 (kv jQ e.ms f.ms),.int .i64 (jk e.act f.act)]:=by rw [hL];rfl
 have hR0:zX e f=cZ (L++[kv fq e.args f.args]):=by rw [hL];rfl
 generalize zX e f=R at *
 generalize hZ:kv fq e.args f.args=Z at *
 refine ACalls.fW au (tCq eV (tCq zK (tCq AK tNq))) Tryz.func56 [.tmp 4] (nrq _) (T:=aq [(1,[[],[],[],[],[1,3],[],[],[],[],[1,3,4,6,8],[],[],[],[],[1,3,4,6,8,9,11,13],[],[],[],[],[1,3,4,6,8,9,11,13,14,16,18],[1,3,4,6,8,9,11,13,14,16,18,19]])]) (h:=fun hcl hlt=>?_)
 clear hlt
 simp only [go_sem,aK,dJ,qS]
 (repeat with_reducible refine Yq ?_)
 refine ⟨e.ms,f.ms,⟨rfl,rfl,he.ok.ml,hf.ok.ml,he.ok.mo,hf.ok.mo⟩,?_⟩
 try simp only [aZ,aH,bhq,Nat.reduceMod,Nat.reduceDiv,aC,aB,aE,aS,aD,aR,aO,aP,aQ,yaq,yar,yao,yap,go_sem]
 obtain ⟨HB,hHB⟩:∃ HB,((H.push (.cells (aK e))).push (.cells (aK f))).push (.buf 1 4)=HB:=⟨_,rfl⟩
 have hclB:HB.Closed:=by
  rw [← hHB]
  exact ag (aa (aa hcl (ltL_iff.2 fun j hj=>AV.lt_cells (li e) j hj)) (ltL_iff.2 fun j hj=>AV.lt_cells (li f) j hj))
 have hnB:HB.nx=H.nx+1+1+1:=by rw [← hHB];rfl
 refine az (A:=Nat) (fun k=>[(2,.ptr H.nx 0),(3,.ptr (H.nx+1) 0),(27,.slice .any 1 (inL L)),(28,.int .i64 ((4:Nat):Int)),(29,.int .i64 (k:Int))]) (fun _=>HB) (fun k=>k≤4∧cZ (L.drop k++[Z])=R) (fun k=>4 - k) 0 ⟨by omega,hR0.symm⟩ ?_ fun k hk=>?_
 ·refine ⟨by simp only [hnB,zkq,zkv];omega,by rw [← hHB];exact lRq _,hclB,?_,?_⟩
  ·simp [ltF,hnB,znn,znf,lB]
   omega
  ·rw [hLi]
   simp [aJ,wk2,wk1,wkM,Fr.get]
 clear hR0
 obtain ⟨hk,hR⟩:=hk
 simp only [go_sem]
 refine ai (fun hc=>?_) (fun hc=>?_)
 ·have hk':k<L.length:=by simp at hc;omega
  obtain ⟨x,hx⟩:∃ x,x=L[k]:=⟨_,rfl⟩
  have hd:L.drop k=x::L.drop (k+1):=by rw [hx];exact dcq hk'
  have hg:=aU (f:=AV.int .i64) (l:=L) (k:=k) (x:=x) (by rw [gQq hk',hx])
  have e5:=Yk5 k
  rw [hd,yal] at hR
  unfold cZ at hR
  rw [← hHB]
  simp only [go_sem,aK,iNq,inL,hg,ybb,hLl]
  (repeat with_reducible refine Yq ?_)
  refine ai (fun hq=>?_) (fun hq=>?_)
  ·rw [if_pos hq] at hR
   subst hR
   simp only [go_sem]
   simp (disch:=first|exact Zd|omega) [↓zmo,beq,ybc,ybd,ybe,ae,wk,wk2,wk1,wkM,wkL,ah,ybf,hcl]
   first|done|repeat first|exact .refl _|refine .push ?_ _
  ·rw [if_neg (by rw [hq];decide)] at hR
   simp only [go_sem,e5]
   refine ⟨k+1,⟨by omega,hR⟩,by omega,by simp only [zle];omega,lRq _,by rw [← hHB] at hclB;exact hclB,?_,?_⟩
   ·simp [ltF,zle,znn,znf]
    exact ⟨by omega,lB⟩
   ·simp [aJ,wk2,wk1,wkM,Fr.get]
 ·have hk':k=L.length:=by simp at hc;omega
  subst hk'
  rw [List.drop_length,yak] at hR
  have hz:R=Z:=by rw [← hR];simp only [cZ];split<;>simp_all
  subst hz
  rw [← hHB]
  simp only [go_sem,aK,qw]
  refine ⟨e.args,f.args,⟨rfl,rfl,he.ok.al,hf.ok.al,he.ar,hf.ar⟩,?_⟩
  rw [hZ]
  try simp only [go_sem]
  simp (disch:=first|exact Zd|omega) [↓zmo,beq,ybc,ybd,ybe,ae,wk,wk2,wk1,wkM,wkL,ah,ybf,hcl]
  first|done|repeat first|exact .refl _|refine .push ?_ _
theorem mP:∀ {l:List Int},cZ l=0↔∀ x∈l,x=0
 |[]=>by simp [cZ]
 |x::l=>by
  have ih:=mP (l:=l)
  unfold cZ
  by_cases hx:x=0
  ·subst hx
   simp [ih]
  ·simp [hx]
theorem Cc {a b:Int}:jk a b=0↔a=b:=by
 unfold jk
 split
 ·constructor<;>intro h<;>omega
 ·split<;>constructor<;>intro h<;>omega
theorem BU {a b:Nat}:fq a b=0↔a=b:=by
 unfold fq
 split
 ·simp [*]
 ·split<;>simp [*]
theorem Mo {m n:SMatch}:pI m=pI n↔m.present=n.present:=by
 unfold pI
 cases m.present<;>cases n.present<;>simp
theorem ID {m n:SMatch}:jQ m n=0↔m=n:=by
 unfold jQ
 rw [mP]
 simp only [List.mem_cons,List.not_mem_nil,or_false,forall_eq_or_imp,forall_eq,Cc,BU,Mo]
 obtain ⟨a,b,c,d,e⟩:=m
 obtain ⟨a',b',c',d',e'⟩:=n
 simp
theorem wT {α:Type} {f:α→α→Int} (hf:∀ x y,f x y=0↔x=y):∀ {xs ys:List α},kv f xs ys=0↔xs=ys
 |[],[]=>by simp [kv]
 |[],_::_=>by simp [kv]
 |_::_,[]=>by simp [kv]
 |x::xs,y::ys=>by
  have ih:=wT hf (xs:=xs) (ys:=ys)
  unfold kv
  by_cases h:f x y=0
  ·have:=(hf x y).1 h
   subst this
   rw [if_neg (by simp [h]),ih]
   simp
  ·have hne:x≠y:=fun e=>h ((hf x y).2 e)
   rw [if_pos (by simp [h])]
   simp [h,hne]
theorem cmpE_eq {e f:SEntry}:zX e f=0↔e=f:=by
 unfold zX
 rw [mP]
 simp only [List.mem_cons,List.not_mem_nil,or_false,forall_eq_or_imp,forall_eq,Cc,wT (fun _ _=>ID),wT (fun _ _=>BU)]
 obtain ⟨a,b,c,d,e⟩:=e
 obtain ⟨a',b',c',d',e'⟩:=f
 simp only [SEntry.mk.injEq]
 constructor
 ·rintro ⟨h1,h2,h3,h4,h5⟩;exact ⟨h1,h3,h2.symm,h4,h5⟩
 ·rintro ⟨h1,h2,h3,h4,h5⟩;exact ⟨h1,h3.symm,h2,h4,h5⟩
structure TPre {α:Type} (f:α→α→Int):Prop where
 anti:∀ x y,f y x = - f x y
 trans:∀ x y z,f x y≤0→f y z≤0→f x z≤0
theorem TPre.zero {α:Type}:TPre fun _ _:α=>0:=⟨fun _ _=>rfl,fun _ _ _ _ _=>by decide⟩
theorem yA:ti Tryz.prog 56=some ⟨.slice 26,1,24,.slice .nil 1 []⟩:=by kernel_rfl
theorem Dv:ti Tryz.prog 26=some ⟨.struct [(0,3,false),(1,23,false),(2,3,false),(3,3,false),(4,24,false)],5,72,.agg [.int .i64 0,.slice .nil 1 [],.int .i64 0,.int .i64 0,.slice .nil 1 []]⟩:=by kernel_rfl
attribute [go_sem] yA Dv
end Go.AL
