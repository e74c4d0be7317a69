/- Lemmas of the proof; no condition. -/
import Derived.Test.YtpbnggedofiinaaGreatS10w
set_option linter.all false
set_option maxRecDepth 10000
set_option maxHeartbeats 32000000
open List renaming length_cons → yaz, length_nil → yba, take_of_length_le → ybc, drop_append → ybd, take_append → ybe, drop_eq_nil_of_le → ybf, cons_append → yal, nil_append → yak, length_map → ybb, take_succ_cons → yaq, take_zero → yar, drop_succ_cons → yao, drop_zero → yap
open Go Go.AL Go.Proofs
namespace Go.AL
def pI (m:SMatch):Int:=if m.present=true then 1 else 0
def ku (m n:SMatch):Int:=jm [jL (pI m) (pI n),ir m.value n.value,ir m.mask n.mask,jL m.pfx n.pfx,ir m.high n.high]
theorem vK {a:Int}:jL a a=0:=by simp [jL]
theorem vQ {a:Nat}:ir a a=0:=by simp [ir]
def fc:List AV→AHeap→(AV→Prop)→Prop
 |[.int .i64 a,.int .i64 b],_,K=>K (.int .i64 (jL a b))
 |_,_,_=>False
theorem gb:EntOk Tryz.prog 214 (Ent.pure fc):=by
 refine Ype fun _ H K h=>?_
 unfold fc at h
 split at h
 rotate_left
 ·exact h.elim
 rename_i a b
 refine ⟨_,h,?_⟩
 clear h
 unfold jL
 by_cases h1:a<b
 ·rw [if_pos h1]
  have d1:decide (a<b)=true:=dtq h1
  refine ACalls.fW ah tNq Tryz.func214 [.tmp 4] (nrq _) (T:=ae []) (h:=fun hcl hlt=>?_)
  clear hlt
  simp only [go_sem,d1]
  exact Z2
 ·rw [if_neg h1]
  have d1:decide (a<b)=false:=dfq h1
  by_cases h2:b<a
  ·rw [if_pos h2]
   have d2:decide (a > b)=true:=dtq h2
   refine ACalls.fW ah tNq Tryz.func214 [.tmp 4] (nrq _) (T:=ae []) (h:=fun hcl hlt=>?_)
   clear hlt
   simp only [go_sem,d1,d2]
   exact Z2
  ·rw [if_neg h2]
   have d2:decide (a > b)=false:=dfq h2
   refine ACalls.fW ah tNq Tryz.func214 [.tmp 4] (nrq _) (T:=ae []) (h:=fun hcl hlt=>?_)
   clear hlt
   simp only [go_sem,d1,d2]
   exact Z2
def tC:List AV→AHeap→(AV→Prop)→Prop
 |[.agg l,.agg k],_,K=>∃ m n:SMatch,(l=cR m∧k=cR n∧MOk m∧MOk n)∧K (.int .i64 (ku m n))
 |_,_,_=>False
theorem nt {a:Int} {l:List Int}:jm (a::l)=if (a != 0)=true then a else jm l:=rfl
theorem uT {x y:Nat}:(ir x y != 0)=!decide (x=y):=by
 unfold ir
 split
 ·simp_all
 ·split<;>simp_all
theorem CT:EntOk Tryz.prog 243 (Ent.pure tC):=by
 refine Ype fun _ H K h=>?_
 unfold tC at h
 split at h
 rotate_left
 ·exact h.elim
 rename_i l k
 obtain ⟨m,n,⟨rfl,rfl,⟨v1,k1,g1⟩,⟨v2,k2,g2⟩⟩,hK⟩:=h
 refine ⟨_,hK,?_⟩
 clear hK
 have i1:=ga v1
 have i2:=ga v2
 have i3:=ga k1
 have i4:=ga k2
 have i5:=ga g1
 have i6:=ga g2
 by_cases hp:m.present=n.present
 ·have dp:(m.present==n.present)=true:=by simp [hp]
  have c0:jL (pI m) (pI n)=0:=by unfold pI;rw [hp];exact vK
  by_cases hv:m.value=n.value
  ·have dv:decide (m.value=n.value)=true:=dtq hv
   have c1:ir m.value n.value=0:=by rw [hv];exact vQ
   by_cases hm:m.mask=n.mask
   ·have dm:decide (m.mask=n.mask)=true:=dtq hm
    have c2:ir m.mask n.mask=0:=by rw [hm];exact vQ
    by_cases hf:m.pfx=n.pfx
    ·have df:(m.pfx != n.pfx)=false:=by simp [hf]
     have c3:jL m.pfx n.pfx=0:=by rw [hf];exact vK
     have e:ku m n=ir m.high n.high:=by unfold ku;rw [c0,c1,c2,c3];simp only [jm];split<;>simp_all
     rw [e]
     refine ACalls.fW ah (tCq gM (tCq gb tNq)) Tryz.func243 [.tmp 4] (nrq _) (T:=ae []) (h:=fun hcl hlt=>?_)
     clear hlt
     simp only [go_sem,cR,vc,yal,yak,dp,dv,dm,df,cH,bT,bD,bB,Bool.bne_true,Bool.not_true,Bool.not_false,gf,fc,p2V,i1,i2,i3,i4,i5,i6,iNq,dr]
     try simp (disch:=first|exact Zd|omega) [↓zmo,beq,ybc,ybd,ybe,ag,wk,wk2,wk1,wkM,wkL,ak,ybf,hcl]
     first|done|repeat first|exact .refl _|refine .push ?_ _
    ·have df:(m.pfx != n.pfx)=true:=by simp [hf]
     have c3:(jL m.pfx n.pfx != 0)=true:=by rw [B4];exact df
     have e:ku m n=jL m.pfx n.pfx:=by unfold ku;rw [c0,c1,c2];simp only [nt,c3];rfl
     rw [e]
     refine ACalls.fW ah (tCq gM (tCq gb tNq)) Tryz.func243 [.tmp 4] (nrq _) (T:=ae []) (h:=fun hcl hlt=>?_)
     clear hlt
     simp only [go_sem,cR,vc,yal,yak,dp,dv,dm,df,cH,bT,bD,bB,Bool.bne_true,Bool.not_true,Bool.not_false,gf,fc,p2V,i1,i2,i3,i4,i5,i6,iNq,dr]
     try simp (disch:=first|exact Zd|omega) [↓zmo,beq,ybc,ybd,ybe,ag,wk,wk2,wk1,wkM,wkL,ak,ybf,hcl]
     first|done|repeat first|exact .refl _|refine .push ?_ _
   ·have dm:decide (m.mask=n.mask)=false:=dfq hm
    have c2:(ir m.mask n.mask != 0)=true:=by rw [uT,dm];rfl
    have e:ku m n=ir m.mask n.mask:=by unfold ku;rw [c0,c1];simp only [nt,c2];rfl
    rw [e]
    refine ACalls.fW ah (tCq gM (tCq gb tNq)) Tryz.func243 [.tmp 4] (nrq _) (T:=ae []) (h:=fun hcl hlt=>?_)
    clear hlt
    simp only [go_sem,cR,vc,yal,yak,dp,dv,dm,cH,bT,bD,bB,Bool.bne_true,Bool.not_true,Bool.not_false,gf,fc,p2V,i1,i2,i3,i4,i5,i6,iNq,dr]
    try simp (disch:=first|exact Zd|omega) [↓zmo,beq,ybc,ybd,ybe,ag,wk,wk2,wk1,wkM,wkL,ak,ybf,hcl]
    first|done|repeat first|exact .refl _|refine .push ?_ _
  ·have dv:decide (m.value=n.value)=false:=dfq hv
   have c1:(ir m.value n.value != 0)=true:=by rw [uT,dv];rfl
   have e:ku m n=ir m.value n.value:=by unfold ku;rw [c0];simp only [nt,c1];rfl
   rw [e]
   refine ACalls.fW ah (tCq gM (tCq gb tNq)) Tryz.func243 [.tmp 4] (nrq _) (T:=ae []) (h:=fun hcl hlt=>?_)
   clear hlt
   simp only [go_sem,cR,vc,yal,yak,dp,dv,cH,bT,bD,bB,Bool.bne_true,Bool.not_true,Bool.not_false,gf,fc,p2V,i1,i2,i3,i4,i5,i6,iNq,dr]
   try simp (disch:=first|exact Zd|omega) [↓zmo,beq,ybc,ybd,ybe,ag,wk,wk2,wk1,wkM,wkL,ak,ybf,hcl]
   first|done|repeat first|exact .refl _|refine .push ?_ _
 ·have dp:(m.present==n.present)=false:=by simp [hp]
  cases hn:n.present
  ·have hm:m.present=true:=by
    cases h:m.present with
    |true=>rfl
    |false=>exact absurd (h.trans hn.symm) hp
   have e:ku m n=1:=by unfold ku pI;rw [hm,hn];rfl
   rw [e]
   refine ACalls.fW ah (tCq gM (tCq gb tNq)) Tryz.func243 [.tmp 4] (nrq _) (T:=ae []) (h:=fun hcl hlt=>?_)
   clear hlt
   simp only [go_sem,cR,vc,yal,yak,hm,hn,show (true != false)=true from rfl,show (false != true)=true from rfl,show (true==false)=false from rfl,show (false==true)=false from rfl,cH,bT,bD,bB,Bool.bne_true,Bool.not_true,Bool.not_false,gf,fc,p2V,i1,i2,i3,i4,i5,i6,iNq,dr]
   try simp (disch:=first|exact Zd|omega) [↓zmo,beq,ybc,ybd,ybe,ag,wk,wk2,wk1,wkM,wkL,ak,ybf,hcl]
   first|done|repeat first|exact .refl _|refine .push ?_ _
  ·have hm:m.present=false:=by
    cases h:m.present with
    |false=>rfl
    |true=>exact absurd (h.trans hn.symm) hp
   have e:ku m n = -1:=by unfold ku pI;rw [hm,hn];rfl
   rw [e]
   refine ACalls.fW ah (tCq gM (tCq gb tNq)) Tryz.func243 [.tmp 4] (nrq _) (T:=ae []) (h:=fun hcl hlt=>?_)
   clear hlt
   simp only [go_sem,cR,vc,yal,yak,hm,hn,show (true != false)=true from rfl,show (false != true)=true from rfl,show (true==false)=false from rfl,show (false==true)=false from rfl,cH,bT,bD,bB,Bool.bne_true,Bool.not_true,Bool.not_false,gf,fc,p2V,i1,i2,i3,i4,i5,i6,iNq,dr]
   try simp (disch:=first|exact Zd|omega) [↓zmo,beq,ybc,ybd,ybe,ag,wk,wk2,wk1,wkM,wkL,ak,ybf,hcl]
   first|done|repeat first|exact .refl _|refine .push ?_ _
theorem xV:ti Tryz.prog 88=some ⟨.slice 254,1,24,.slice .nil 1 []⟩:=by kernel_rfl
theorem z7:ti Tryz.prog 85=some ⟨.slice 38,1,24,.slice .nil 1 []⟩:=by kernel_rfl
theorem C5:ti Tryz.prog 254=some ⟨.struct [(0,4,false),(1,38,false),(3,38,false),(5,3,false),(6,38,false)],8,64,.agg [.bool false,.int .u64 0,.int .u64 0,.int .u64 0,.int .u64 0,.int .i64 0,.int .u64 0,.int .u64 0]⟩:=by kernel_rfl
attribute [go_sem] xV z7 C5
def lp {α:Type} (f:α→α→Int):List α→List α→Int
 |[],[]=>0
 |[],_::_ => -1
 |_::_,[]=>1
 |x::xs,y::ys=>if (f x y != 0)=true then f x y else lp f xs ys
theorem qa {α:Type} {f:α→α→Int}:∀ {xs ys:List α} {k:Nat},k≤xs.length→k≤ys.length→(k=xs.length∨k=ys.length)→lp f (xs.drop k) (ys.drop k)=jL xs.length ys.length:=by
 intro xs ys k h1 h2 h
 have e1:(xs.drop k).length=xs.length - k:=List.length_drop ..
 have e2:(ys.drop k).length=ys.length - k:=List.length_drop ..
 generalize xs.drop k=a at *
 generalize ys.drop k=b at *
 unfold jL
 cases a with
 |nil =>
  cases b with
  |nil =>
   simp only [yba] at e1 e2
   rw [if_neg (by omega),if_neg (by omega)];rfl
  |cons y ys' =>
   simp only [yba,yaz] at e1 e2
   rw [if_pos (by omega)];rfl
 |cons x xs' =>
  cases b with
  |nil =>
   simp only [yba,yaz] at e1 e2
   rw [if_neg (by omega),if_pos (by omega)];rfl
  |cons y ys' =>
   simp only [yaz] at e1 e2
   omega
def rJ:List AV→AHeap→(AV→Prop)→Prop
 |[.slice _ 8 l,.slice _ 8 k],_,K=>∃ ms ns:List SMatch,(l=ms.map aR∧k=ns.map aR∧ms.length≤140737488355328∧ns.length≤140737488355328∧(∀ x∈ms,MOk x)∧∀ x∈ns,MOk x)∧K (.int .i64 (lp ku ms ns))
 |_,_,_=>False
theorem At:EntOk Tryz.prog 215 (Ent.pure rJ):=by
 refine Ype fun _ H K h=>?_
 unfold rJ at h
 split at h
 rotate_left
 ·exact h.elim
 rename_i m1 l m2 k
 obtain ⟨ms,ns,⟨rfl,rfl,hl1,hl2,ho1,ho2⟩,hK⟩:=h
 refine ⟨_,hK,?_⟩
 clear hK
 generalize hR:lp ku ms ns=R
 refine ACalls.fW ah (tCq CT (tCq gb tNq)) Tryz.func215 [.tmp 4] (nrq _) (T:=ae [(4,[[],[],[],[],[],[],[],[],[3,7]])]) (h:=fun hcl hlt=>?_)
 have hm1:AV.lt H.nx (.slice m1 8 (ms.map aR)):=hlt _ (by simp)
 have hm2:AV.lt H.nx (.slice m2 8 (ns.map aR)):=hlt _ (by simp)
 clear hlt
 simp only [go_sem,ybb]
 refine aK (A:=Nat) (fun k=>[(0,.slice m1 8 (ms.map aR)),(1,.slice m2 8 (ns.map aR)),(5,.int .i64 (k:Int))]) (fun _=>H) (fun k=>k≤ms.length∧k≤ns.length∧lp ku (ms.drop k) (ns.drop k)=R) (fun k=>ms.length - k) 0 ⟨by omega,by omega,hR⟩ ?_ fun k hk=>?_
 ·refine ⟨nrq _,lRq _,hcl,?_,?_⟩
  ·simp [ltF,znf,hm1,hm2]
  ·simp [cf,wk2,wk1,wkM,Fr.get]
 clear hR
 obtain ⟨hk1,hk2,hR⟩:=hk
 by_cases hk':k<ms.length
 ·have d0:decide ((k:Int)<(ms.length:Int))=true:=dtq (by omega)
  obtain ⟨x,hx⟩:∃ x,x=ms[k]:=⟨_,rfl⟩
  have hd:ms.drop k=x::ms.drop (k+1):=by rw [hx];exact dcq hk'
  have hg:=bH (f:=aR) (l:=ms) (k:=k) (x:=x) (by rw [gQq hk',hx])
  have e5:=Yk5 k
  have hox:=ho1 x (by rw [hx];exact gMq hk')
  by_cases hk3:k<ns.length
  ·have d1:decide ((k:Int)<(ns.length:Int))=true:=dtq (by omega)
   obtain ⟨y,hy⟩:∃ y,y=ns[k]:=⟨_,rfl⟩
   have hd2:ns.drop k=y::ns.drop (k+1):=by rw [hy];exact dcq hk3
   have hg2:=bH (f:=aR) (l:=ns) (k:=k) (x:=y) (by rw [gQq hk3,hy])
   have hoy:=ho2 y (by rw [hy];exact gMq hk3)
   rw [hd,hd2] at hR
   unfold lp at hR
   skip
   simp only [go_sem,iNq,ybb,hg,hg2,d0,d1,aR,cR,vc,yal,yak,tC]
   (repeat with_reducible refine Yq ?_)
   refine ⟨x,y,⟨rfl,rfl,hox,hoy⟩,?_⟩
   try simp only [bk,bh,bhq,Nat.reduceMod,Nat.reduceDiv,aA,az,aB,aZ,aC,aY,aS,aU,aV,yaq,yar,yao,yap,go_sem,ybb]
   refine af (fun hq=>?_) (fun hq=>?_)
   ·rw [if_pos hq] at hR
    subst hR
    simp only [go_sem]
    simp (disch:=first|exact Zd|omega) [↓zmo,beq,ybc,ybd,ybe,ag,wk,wk2,wk1,wkM,wkL,ak,ybf,hcl]
    first|done|repeat first|exact .refl _|refine .push ?_ _
   ·rw [if_neg (by rw [hq];decide)] at hR
    simp only [go_sem,e5]
    refine ⟨k+1,⟨by omega,by omega,hR⟩,by omega,nrq _,by repeat first|exact .refl _|refine .push ?_ _,hcl,?_,?_⟩
    ·simp [ltF,znf,hm1,hm2]
    ·simp [cf,wk2,wk1,wkM,Fr.get]
  ·have d1:decide ((k:Int)<(ns.length:Int))=false:=dfq (by omega)
   have he:=qa (f:=ku) hk1 hk2 (.inr (by omega))
   rw [he] at hR
   subst hR
   simp only [go_sem,iNq,ybb,d0,d1,fc]
   (repeat with_reducible refine Yq ?_)
   simp (disch:=first|exact Zd|omega) [↓zmo,beq,ybc,ybd,ybe,ag,wk,wk2,wk1,wkM,wkL,ak,ybf,hcl]
   first|done|repeat first|exact .refl _|refine .push ?_ _
 ·have d0:decide ((k:Int)<(ms.length:Int))=false:=dfq (by omega)
  have he:=qa (f:=ku) hk1 hk2 (.inl (by omega))
  rw [he] at hR
  subst hR
  simp only [go_sem,iNq,ybb,d0,fc]
  (repeat with_reducible refine Yq ?_)
  simp (disch:=first|exact Zd|omega) [↓zmo,beq,ybc,ybd,ybe,ag,wk,wk2,wk1,wkM,wkL,ak,ybf,hcl]
  first|done|repeat first|exact .refl _|refine .push ?_ _
def rE:List AV→AHeap→(AV→Prop)→Prop
 |[.slice _ 2 l,.slice _ 2 k],_,K=>∃ ms ns:List Nat,(l=ms.map vv∧k=ns.map vv∧ms.length≤140737488355328∧ns.length≤140737488355328∧(∀ x∈ms,x<2^128)∧∀ x∈ns,x<2^128)∧K (.int .i64 (lp ir ms ns))
 |_,_,_=>False
theorem AN:EntOk Tryz.prog 216 (Ent.pure rE):=by
 refine Ype fun _ H K h=>?_
 unfold rE at h
 split at h
 rotate_left
 ·exact h.elim
 rename_i m1 l m2 k
 obtain ⟨ms,ns,⟨rfl,rfl,hl1,hl2,ho1,ho2⟩,hK⟩:=h
 refine ⟨_,hK,?_⟩
 clear hK
 generalize hR:lp ir ms ns=R
 refine ACalls.fW ah (tCq gM (tCq gb tNq)) Tryz.func216 [.tmp 4] (nrq _) (T:=ae [(4,[[],[],[],[],[],[],[],[],[3,7]])]) (h:=fun hcl hlt=>?_)
 have hm1:AV.lt H.nx (.slice m1 2 (ms.map vv)):=hlt _ (by simp)
 have hm2:AV.lt H.nx (.slice m2 2 (ns.map vv)):=hlt _ (by simp)
 clear hlt
 simp only [go_sem,ybb]
 refine aK (A:=Nat) (fun k=>[(0,.slice m1 2 (ms.map vv)),(1,.slice m2 2 (ns.map vv)),(5,.int .i64 (k:Int))]) (fun _=>H) (fun k=>k≤ms.length∧k≤ns.length∧lp ir (ms.drop k) (ns.drop k)=R) (fun k=>ms.length - k) 0 ⟨by omega,by omega,hR⟩ ?_ fun k hk=>?_
 ·refine ⟨nrq _,lRq _,hcl,?_,?_⟩
  ·simp [ltF,znf,hm1,hm2]
  ·simp [cf,wk2,wk1,wkM,Fr.get]
 clear hR
 obtain ⟨hk1,hk2,hR⟩:=hk
 by_cases hk':k<ms.length
 ·have d0:decide ((k:Int)<(ms.length:Int))=true:=dtq (by omega)
  obtain ⟨x,hx⟩:∃ x,x=ms[k]:=⟨_,rfl⟩
  have hd:ms.drop k=x::ms.drop (k+1):=by rw [hx];exact dcq hk'
  have hg:=bH (f:=vv) (l:=ms) (k:=k) (x:=x) (by rw [gQq hk',hx])
  have e5:=Yk5 k
  have hox:=ho1 x (by rw [hx];exact gMq hk')
  by_cases hk3:k<ns.length
  ·have d1:decide ((k:Int)<(ns.length:Int))=true:=dtq (by omega)
   obtain ⟨y,hy⟩:∃ y,y=ns[k]:=⟨_,rfl⟩
   have hd2:ns.drop k=y::ns.drop (k+1):=by rw [hy];exact dcq hk3
   have hg2:=bH (f:=vv) (l:=ns) (k:=k) (x:=y) (by rw [gQq hk3,hy])
   have hoy:=ho2 y (by rw [hy];exact gMq hk3)
   rw [hd,hd2] at hR
   unfold lp at hR
   have ix:=ga hox
   have iy:=ga hoy
   simp only [go_sem,iNq,ybb,hg,hg2,d0,d1,vv,vc,gf,p2V,ix,iy,iNq,dr]
   (repeat with_reducible refine Yq ?_)
   try simp only [bk,bh,bhq,Nat.reduceMod,Nat.reduceDiv,aA,az,aB,aZ,aC,aY,aS,aU,aV,yaq,yar,yao,yap,go_sem,ybb]
   refine af (fun hq=>?_) (fun hq=>?_)
   ·rw [if_pos hq] at hR
    subst hR
    simp only [go_sem]
    simp (disch:=first|exact Zd|omega) [↓zmo,beq,ybc,ybd,ybe,ag,wk,wk2,wk1,wkM,wkL,ak,ybf,hcl]
    first|done|repeat first|exact .refl _|refine .push ?_ _
   ·rw [if_neg (by rw [hq];decide)] at hR
    simp only [go_sem,e5]
    refine ⟨k+1,⟨by omega,by omega,hR⟩,by omega,nrq _,by repeat first|exact .refl _|refine .push ?_ _,hcl,?_,?_⟩
    ·simp [ltF,znf,hm1,hm2]
    ·simp [cf,wk2,wk1,wkM,Fr.get]
  ·have d1:decide ((k:Int)<(ns.length:Int))=false:=dfq (by omega)
   have he:=qa (f:=ir) hk1 hk2 (.inr (by omega))
   rw [he] at hR
   subst hR
   simp only [go_sem,iNq,ybb,d0,d1,fc]
   (repeat with_reducible refine Yq ?_)
   simp (disch:=first|exact Zd|omega) [↓zmo,beq,ybc,ybd,ybe,ag,wk,wk2,wk1,wkM,wkL,ak,ybf,hcl]
   first|done|repeat first|exact .refl _|refine .push ?_ _
 ·have d0:decide ((k:Int)<(ms.length:Int))=false:=dfq (by omega)
  have he:=qa (f:=ir) hk1 hk2 (.inl (by omega))
  rw [he] at hR
  subst hR
  simp only [go_sem,iNq,ybb,d0,fc]
  (repeat with_reducible refine Yq ?_)
  simp (disch:=first|exact Zd|omega) [↓zmo,beq,ybc,ybd,ybe,ag,wk,wk2,wk1,wkM,wkL,ak,ybf,hcl]
  first|done|repeat first|exact .refl _|refine .push ?_ _
structure COk (e:SEntry):Prop where
 ok:EOk e
 ar:∀ x∈e.args,x<2^128
def xg (e f:SEntry):Int:=jm [jL e.table f.table,jL f.prio e.prio,lp ku e.ms f.ms,jL e.act f.act,lp ir e.args f.args]
def mZ:List AV→AHeap→(AV→Prop)→Prop
 |[.agg l,.agg k],_,K=>∃ e f:SEntry,(l=aN e∧k=aN f∧COk e∧COk f)∧K (.int .i64 (xg e f))
 |_,_,_=>False
theorem wi:EntOk Tryz.prog 148 (Ent.pure mZ):=by
 refine Ype fun _ H K h=>?_
 unfold mZ at h
 split at h
 rotate_left
 ·exact h.elim
 rename_i l k
 obtain ⟨e,f,⟨rfl,rfl,he,hf⟩,hK⟩:=h
 refine ⟨_,hK,?_⟩
 clear hK
 obtain ⟨L,hL⟩:∃ L,L=[jL e.table f.table,jL f.prio e.prio,lp ku e.ms f.ms,jL e.act f.act]:=⟨_,rfl⟩
 have hLl:L.length=4:=by rw [hL];rfl
 have hLi:inL L=[.int .i64 (jL e.table f.table),.int .i64 (jL f.prio e.prio),.int .i64 (lp ku e.ms f.ms),.int .i64 (jL e.act f.act)]:=by rw [hL];rfl
 have hR0:xg e f=jm (L++[lp ir e.args f.args]):=by rw [hL];rfl
 generalize xg e f=R at *
 generalize hZ:lp ir e.args f.args=Z at *
 refine ACalls.fW ah (tCq gb (tCq At (tCq AN tNq))) Tryz.func148 [.tmp 4] (nrq _) (T:=ae [(1,[[],[],[],[],[1,3],[],[],[],[],[1,3,4,6,8],[],[],[],[],[1,3,4,6,8,9,11,13],[],[],[],[],[1,3,4,6,8,9,11,13,14,16,18],[1,3,4,6,8,9,11,13,14,16,18,19]])]) (h:=fun hcl hlt=>?_)
 clear hlt
 simp only [go_sem,aN,fc,rJ]
 (repeat with_reducible refine Yq ?_)
 refine ⟨e.ms,f.ms,⟨rfl,rfl,he.ok.ml,hf.ok.ml,he.ok.mo,hf.ok.mo⟩,?_⟩
 try simp only [bk,bh,bhq,Nat.reduceMod,Nat.reduceDiv,aA,az,aB,aZ,aC,aY,aS,aU,aV,yaq,yar,yao,yap,go_sem]
 obtain ⟨HB,hHB⟩:∃ HB,((H.push (.cells (aN e))).push (.cells (aN f))).push (.buf 1 4)=HB:=⟨_,rfl⟩
 have hclB:HB.Closed:=by
  rw [← hHB]
  exact bj (aD (aD hcl (ltL_iff.2 fun j hj=>AV.lt_cells (dJ e) j hj)) (ltL_iff.2 fun j hj=>AV.lt_cells (dJ f) j hj))
 have hnB:HB.nx=H.nx+1+1+1:=by rw [← hHB];rfl
 refine aK (A:=Nat) (fun k=>[(2,.ptr H.nx 0),(3,.ptr (H.nx+1) 0),(27,.slice .any 1 (inL L)),(28,.int .i64 ((4:Nat):Int)),(29,.int .i64 (k:Int))]) (fun _=>HB) (fun k=>k≤4∧jm (L.drop k++[Z])=R) (fun k=>4 - k) 0 ⟨by omega,hR0.symm⟩ ?_ fun k hk=>?_
 ·refine ⟨by simp only [hnB,zkq,zkv];omega,by rw [← hHB];exact lRq _,hclB,?_,?_⟩
  ·simp [ltF,hnB,znn,znf,s9]
   omega
  ·rw [hLi]
   simp [cf,wk2,wk1,wkM,Fr.get]
 clear hR0
 obtain ⟨hk,hR⟩:=hk
 simp only [go_sem]
 refine af (fun hc=>?_) (fun hc=>?_)
 ·have hk':k<L.length:=by simp at hc;omega
  obtain ⟨x,hx⟩:∃ x,x=L[k]:=⟨_,rfl⟩
  have hd:L.drop k=x::L.drop (k+1):=by rw [hx];exact dcq hk'
  have hg:=bH (f:=AV.int .i64) (l:=L) (k:=k) (x:=x) (by rw [gQq hk',hx])
  have e5:=Yk5 k
  rw [hd,yal] at hR
  unfold jm at hR
  rw [← hHB]
  simp only [go_sem,aN,iNq,inL,hg,ybb,hLl]
  (repeat with_reducible refine Yq ?_)
  refine af (fun hq=>?_) (fun hq=>?_)
  ·rw [if_pos hq] at hR
   subst hR
   simp only [go_sem]
   simp (disch:=first|exact Zd|omega) [↓zmo,beq,ybc,ybd,ybe,ag,wk,wk2,wk1,wkM,wkL,ak,ybf,hcl]
   first|done|repeat first|exact .refl _|refine .push ?_ _
  ·rw [if_neg (by rw [hq];decide)] at hR
   simp only [go_sem,e5]
   refine ⟨k+1,⟨by omega,hR⟩,by omega,by simp only [zle];omega,lRq _,by rw [← hHB] at hclB;exact hclB,?_,?_⟩
   ·simp [ltF,zle,znn,znf]
    exact ⟨by omega,s9⟩
   ·simp [cf,wk2,wk1,wkM,Fr.get]
 ·have hk':k=L.length:=by simp at hc;omega
  subst hk'
  rw [List.drop_length,yak] at hR
  have hz:R=Z:=by rw [← hR];simp only [jm];split<;>simp_all
  subst hz
  rw [← hHB]
  simp only [go_sem,aN,rE]
  refine ⟨e.args,f.args,⟨rfl,rfl,he.ok.al,hf.ok.al,he.ar,hf.ar⟩,?_⟩
  rw [hZ]
  try simp only [go_sem]
  simp (disch:=first|exact Zd|omega) [↓zmo,beq,ybc,ybd,ybe,ag,wk,wk2,wk1,wkM,wkL,ak,ybf,hcl]
  first|done|repeat first|exact .refl _|refine .push ?_ _
end Go.AL
