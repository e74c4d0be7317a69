/- Lemmas of the proof; no condition. -/
import Derived.Test.YtpbnggedofiinaaGreatS11c
set_option linter.all false
set_option maxRecDepth 10000
set_option maxHeartbeats 32000000
open List renaming length_cons → yaz, length_nil → yba, length_map → ybb, cons_append → yal, nil_append → yak, take_of_length_le → ybc, drop_append → ybd, take_append → ybe, drop_eq_nil_of_le → ybf, take_succ_cons → yaq, take_zero → yar, drop_succ_cons → yao, drop_zero → yap
open Go Go.AL Go.Proofs
namespace Go.AL
theorem nH:∀ {l:List Int},jm l=0↔∀ x∈l,x=0
 |[]=>by simp [jm]
 |x::l=>by
  have ih:=nH (l:=l)
  unfold jm
  by_cases hx:x=0
  ·subst hx
   simp [ih]
  ·simp [hx]
theorem Be {a b:Int}:jL a b=0↔a=b:=by
 unfold jL
 split
 ·constructor<;>intro h<;>omega
 ·split<;>constructor<;>intro h<;>omega
theorem BH {a b:Nat}:ir a b=0↔a=b:=by
 unfold ir
 split
 ·simp [*]
 ·split<;>simp [*]
theorem HJ {m n:SMatch}:pI m=pI n↔m.present=n.present:=by
 unfold pI
 cases m.present<;>cases n.present<;>simp
theorem FV {m n:SMatch}:ku m n=0↔m=n:=by
 unfold ku
 rw [nH]
 simp only [List.mem_cons,List.not_mem_nil,or_false,forall_eq_or_imp,forall_eq,Be,BH,HJ]
 obtain ⟨a,b,c,d,e⟩:=m
 obtain ⟨a',b',c',d',e'⟩:=n
 simp
theorem xp {α:Type} {f:α→α→Int} (hf:∀ x y,f x y=0↔x=y):∀ {xs ys:List α},lp f xs ys=0↔xs=ys
 |[],[]=>by simp [lp]
 |[],_::_=>by simp [lp]
 |_::_,[]=>by simp [lp]
 |x::xs,y::ys=>by
  have ih:=xp hf (xs:=xs) (ys:=ys)
  unfold lp
  by_cases h:f x y=0
  ·have:=(hf x y).1 h
   subst this
   rw [if_neg (by simp [h]),ih]
   simp
  ·have hne:x≠y:=fun e=>h ((hf x y).2 e)
   rw [if_pos (by simp [h])]
   simp [h,hne]
theorem Bz {e f:SEntry}:xg e f=0↔e=f:=by
 unfold xg
 rw [nH]
 simp only [List.mem_cons,List.not_mem_nil,or_false,forall_eq_or_imp,forall_eq,Be,xp (fun _ _=>FV),xp (fun _ _=>BH)]
 obtain ⟨a,b,c,d,e⟩:=e
 obtain ⟨a',b',c',d',e'⟩:=f
 simp only [SEntry.mk.injEq]
 constructor
 ·rintro ⟨h1,h2,h3,h4,h5⟩;exact ⟨h1,h3,h2.symm,h4,h5⟩
 ·rintro ⟨h1,h2,h3,h4,h5⟩;exact ⟨h1,h3.symm,h2,h4,h5⟩
def um (e f:SEntry):Bool:=decide (e.table=f.table)&&(decide (e.ms=f.ms)&&decide (e.prio=f.prio))
def yy:List AV→AHeap→(AV→Prop)→Prop
 |[.slice _ 8 l,.slice _ 8 k],_,K=>∃ ms ns:List SMatch,(l=ms.map aR∧k=ns.map aR∧ms.length≤140737488355328∧ns.length≤140737488355328)∧K (.bool (decide (ms=ns)))
 |_,_,_=>False
theorem AO:EntOk Tryz.prog 217 (Ent.pure yy):=by
 refine Ype fun _ H K h=>?_
 unfold yy at h
 split at h
 rotate_left
 ·exact h.elim
 rename_i m1 l m2 k
 obtain ⟨ms,ns,⟨rfl,rfl,hl1,hl2⟩,hK⟩:=h
 refine ⟨_,hK,?_⟩
 clear hK
 by_cases hlen:ms.length=ns.length
 ·have d0:(((ms.length:Nat):Int) != ((ns.length:Nat):Int))=false:=by simp [hlen]
  generalize hR:decide (ms=ns)=R
  refine ACalls.fW ah tNq Tryz.func217 [.tmp 4] (nrq _) (T:=ae []) (h:=fun hcl hlt=>?_)
  have hm1:AV.lt H.nx (.slice m1 8 (ms.map aR)):=hlt _ (by simp)
  have hm2:AV.lt H.nx (.slice m2 8 (ns.map aR)):=hlt _ (by simp)
  clear hlt
  simp only [go_sem,ybb,d0]
  refine aK (A:=Nat) (fun k=>[(0,.slice m1 8 (ms.map aR)),(1,.slice m2 8 (ns.map aR)),(12,.int .i64 (ms.length:Int)),(13,.int .i64 (k:Int))]) (fun _=>H) (fun k=>k≤ms.length∧decide (ms.drop k=ns.drop k)=R) (fun k=>ms.length - k) 0 ⟨by omega,hR⟩ ?_ fun k hk=>?_
  ·refine ⟨nrq _,lRq _,hcl,?_,?_⟩
   ·simp [ltF,znf,hm1,hm2]
   ·simp [cf,wk2,wk1,wkM,Fr.get]
  clear hR
  obtain ⟨hk1,hR⟩:=hk
  simp only [go_sem]
  refine af (fun hc=>?_) (fun hc=>?_)
  ·have hk':k<ms.length:=by simp at hc;omega
   have hk3:k<ns.length:=by omega
   obtain ⟨x,hx⟩:∃ x,x=ms[k]:=⟨_,rfl⟩
   have hd:ms.drop k=x::ms.drop (k+1):=by rw [hx];exact dcq hk'
   have hg:=bH (f:=aR) (l:=ms) (k:=k) (x:=x) (by rw [gQq hk',hx])
   have e5:=Yk5 k
   obtain ⟨y,hy⟩:∃ y,y=ns[k]:=⟨_,rfl⟩
   have hd2:ns.drop k=y::ns.drop (k+1):=by rw [hy];exact dcq hk3
   have hg2:=bH (f:=aR) (l:=ns) (k:=k) (x:=y) (by rw [gQq hk3,hy])
   rw [hd,hd2] at hR
   by_cases hxy:x=y
   ·have dxy:decide (x=y)=true:=dtq hxy
    have hR':decide (ms.drop (k+1)=ns.drop (k+1))=R:=by
     rw [← hR,decide_eq_decide,hxy];simp
    simp only [go_sem,iNq,ybb,hg,hg2,aR,cR,vc,yal,yak,pj,mF,Bool.bne_false,dxy,Bool.bne_true,Bool.not_true,e5]
    refine ⟨⟨by omega,by omega⟩,⟨by omega,by omega⟩,k+1,⟨by omega,hR'⟩,by omega,nrq _,lRq _,hcl,?_,?_⟩
    ·simp [ltF,znf,hm1,hm2]
    ·simp [cf,wk2,wk1,wkM,Fr.get]
   ·have dxy:decide (x=y)=false:=dfq hxy
    have hR':R=false:=by
     rw [← hR];refine dfq fun h=>hxy ?_
     exact (List.cons.inj h).1
    subst hR'
    simp only [go_sem,iNq,ybb,hg,hg2,aR,cR,vc,yal,yak,pj,mF,Bool.bne_false,dxy,Bool.bne_true,Bool.not_false]
    refine ⟨⟨by omega,by omega⟩,⟨by omega,by omega⟩,?_⟩
    exact Z2
  ·have hk':k=ms.length:=by simp at hc;omega
   rw [ybf (by omega),ybf (by omega)] at hR
   have hR':R=true:=by rw [← hR];rfl
   subst hR'
   simp only [go_sem]
   exact Z2
 ·have d0:(((ms.length:Nat):Int) != ((ns.length:Nat):Int))=true:=by simp;omega
  have hR:decide (ms=ns)=false:=dfq fun h=>hlen (by rw [h])
  rw [hR]
  refine ACalls.fW ah tNq Tryz.func217 [.tmp 4] (nrq _) (T:=ae []) (h:=fun hcl hlt=>?_)
  clear hlt
  simp only [go_sem,ybb,d0]
  exact Z2
def yi:List AV→AHeap→(AV→Prop)→Prop
 |[.slice _ 2 l,.slice _ 2 k],_,K=>∃ ms ns:List Nat,(l=ms.map vv∧k=ns.map vv∧ms.length≤140737488355328∧ns.length≤140737488355328)∧K (.bool (decide (ms=ns)))
 |_,_,_=>False
theorem zJ:EntOk Tryz.prog 150 (Ent.pure yi):=by
 refine Ype fun _ H K h=>?_
 unfold yi at h
 split at h
 rotate_left
 ·exact h.elim
 rename_i m1 l m2 k
 obtain ⟨ms,ns,⟨rfl,rfl,hl1,hl2⟩,hK⟩:=h
 refine ⟨_,hK,?_⟩
 clear hK
 by_cases hlen:ms.length=ns.length
 ·have d0:(((ms.length:Nat):Int) != ((ns.length:Nat):Int))=false:=by simp [hlen]
  generalize hR:decide (ms=ns)=R
  refine ACalls.fW ah tNq Tryz.func150 [.tmp 4] (nrq _) (T:=ae []) (h:=fun hcl hlt=>?_)
  have hm1:AV.lt H.nx (.slice m1 2 (ms.map vv)):=hlt _ (by simp)
  have hm2:AV.lt H.nx (.slice m2 2 (ns.map vv)):=hlt _ (by simp)
  clear hlt
  simp only [go_sem,ybb,d0]
  refine aK (A:=Nat) (fun k=>[(0,.slice m1 2 (ms.map vv)),(1,.slice m2 2 (ns.map vv)),(12,.int .i64 (ms.length:Int)),(13,.int .i64 (k:Int))]) (fun _=>H) (fun k=>k≤ms.length∧decide (ms.drop k=ns.drop k)=R) (fun k=>ms.length - k) 0 ⟨by omega,hR⟩ ?_ fun k hk=>?_
  ·refine ⟨nrq _,lRq _,hcl,?_,?_⟩
   ·simp [ltF,znf,hm1,hm2]
   ·simp [cf,wk2,wk1,wkM,Fr.get]
  clear hR
  obtain ⟨hk1,hR⟩:=hk
  simp only [go_sem]
  refine af (fun hc=>?_) (fun hc=>?_)
  ·have hk':k<ms.length:=by simp at hc;omega
   have hk3:k<ns.length:=by omega
   obtain ⟨x,hx⟩:∃ x,x=ms[k]:=⟨_,rfl⟩
   have hd:ms.drop k=x::ms.drop (k+1):=by rw [hx];exact dcq hk'
   have hg:=bH (f:=vv) (l:=ms) (k:=k) (x:=x) (by rw [gQq hk',hx])
   have e5:=Yk5 k
   obtain ⟨y,hy⟩:∃ y,y=ns[k]:=⟨_,rfl⟩
   have hd2:ns.drop k=y::ns.drop (k+1):=by rw [hy];exact dcq hk3
   have hg2:=bH (f:=vv) (l:=ns) (k:=k) (x:=y) (by rw [gQq hk3,hy])
   rw [hd,hd2] at hR
   by_cases hxy:x=y
   ·have dxy:decide (x=y)=true:=dtq hxy
    have hR':decide (ms.drop (k+1)=ns.drop (k+1))=R:=by
     rw [← hR,decide_eq_decide,hxy];simp
    simp only [go_sem,iNq,ybb,hg,hg2,vv,vc,bD,bB,cH,bT,dxy,Bool.bne_true,Bool.not_true,e5]
    refine ⟨⟨by omega,by omega⟩,⟨by omega,by omega⟩,k+1,⟨by omega,hR'⟩,by omega,nrq _,lRq _,hcl,?_,?_⟩
    ·simp [ltF,znf,hm1,hm2]
    ·simp [cf,wk2,wk1,wkM,Fr.get]
   ·have dxy:decide (x=y)=false:=dfq hxy
    have hR':R=false:=by
     rw [← hR];refine dfq fun h=>hxy ?_
     exact (List.cons.inj h).1
    subst hR'
    simp only [go_sem,iNq,ybb,hg,hg2,vv,vc,bD,bB,cH,bT,dxy,Bool.bne_true,Bool.not_false]
    refine ⟨⟨by omega,by omega⟩,⟨by omega,by omega⟩,?_⟩
    exact Z2
  ·have hk':k=ms.length:=by simp at hc;omega
   rw [ybf (by omega),ybf (by omega)] at hR
   have hR':R=true:=by rw [← hR];rfl
   subst hR'
   simp only [go_sem]
   exact Z2
 ·have d0:(((ms.length:Nat):Int) != ((ns.length:Nat):Int))=true:=by simp;omega
  have hR:decide (ms=ns)=false:=dfq fun h=>hlen (by rw [h])
  rw [hR]
  refine ACalls.fW ah tNq Tryz.func150 [.tmp 4] (nrq _) (T:=ae []) (h:=fun hcl hlt=>?_)
  clear hlt
  simp only [go_sem,ybb,d0]
  exact Z2
def kw:List AV→AHeap→(AV→Prop)→Prop
 |[.agg l,.agg k],_,K=>∃ e f:SEntry,(l=aN e∧k=aN f∧COk e∧COk f)∧K (.bool (um e f))
 |_,_,_=>False
theorem nk:EntOk Tryz.prog 149 (Ent.pure kw):=by
 refine Ype fun _ H K h=>?_
 unfold kw at h
 split at h
 rotate_left
 ·exact h.elim
 rename_i l k
 obtain ⟨e,f,⟨rfl,rfl,he,hf⟩,hK⟩:=h
 refine ⟨_,hK,?_⟩
 clear hK
 unfold um
 by_cases ht:e.table=f.table
 ·have dt:(e.table==f.table)=true:=by simp [ht]
  rw [dtq ht,Bool.true_and]
  by_cases hm:e.ms=f.ms
  ·have dm:decide (e.ms=f.ms)=true:=dtq hm
   rw [dm,Bool.true_and]
   have dp:(e.prio==f.prio)=decide (e.prio=f.prio):=by rw [Bool.eq_iff_iff];simp
   refine ACalls.fW ah (tCq AO tNq) Tryz.func149 [.tmp 4] (nrq _) (T:=ae []) (h:=fun hcl hlt=>?_)
   clear hlt
   simp only [go_sem,aN,yy,dt]
   refine ⟨e.ms,f.ms,⟨rfl,rfl,he.ok.ml,hf.ok.ml⟩,?_⟩
   rw [dm]
   try simp only [bk,bh,bhq,Nat.reduceMod,Nat.reduceDiv,aA,az,aB,aZ,aC,aY,aS,aU,aV,yaq,yar,yao,yap,go_sem,dp]
   try simp (disch:=first|exact Zd|omega) [↓zmo,beq,ybc,ybd,ybe,ag,wk,wk2,wk1,wkM,wkL,ak,ybf,hcl]
   first|done|repeat first|exact .refl _|refine .push ?_ _
  ·have dm:decide (e.ms=f.ms)=false:=dfq hm
   rw [dm,Bool.false_and]
   refine ACalls.fW ah (tCq AO tNq) Tryz.func149 [.tmp 4] (nrq _) (T:=ae []) (h:=fun hcl hlt=>?_)
   clear hlt
   simp only [go_sem,aN,yy,dt]
   refine ⟨e.ms,f.ms,⟨rfl,rfl,he.ok.ml,hf.ok.ml⟩,?_⟩
   rw [dm]
   try simp only [bk,bh,bhq,Nat.reduceMod,Nat.reduceDiv,aA,az,aB,aZ,aC,aY,aS,aU,aV,yaq,yar,yao,yap,go_sem]
   try simp (disch:=first|exact Zd|omega) [↓zmo,beq,ybc,ybd,ybe,ag,wk,wk2,wk1,wkM,wkL,ak,ybf,hcl]
   first|done|repeat first|exact .refl _|refine .push ?_ _
 ·have dt:(e.table==f.table)=false:=by simp [ht]
  rw [dfq ht,Bool.false_and]
  refine ACalls.fW ah (tCq AO tNq) Tryz.func149 [.tmp 4] (nrq _) (T:=ae []) (h:=fun hcl hlt=>?_)
  clear hlt
  simp only [go_sem,aN,yy,dt]
  try simp (disch:=first|exact Zd|omega) [↓zmo,beq,ybc,ybd,ybe,ag,wk,wk2,wk1,wkM,wkL,ak,ybf,hcl]
  first|done|repeat first|exact .refl _|refine .push ?_ _
def sA:List AV→AHeap→(AV→Prop)→Prop
 |[.agg l,.agg k],_,K=>∃ e f:SEntry,(l=aN e∧k=aN f∧COk e∧COk f)∧K (.bool (um e f&&(decide (e.act=f.act)&&decide (e.args=f.args))))
 |_,_,_=>False
theorem qz:EntOk Tryz.prog 56 (Ent.pure sA):=by
 refine Ype fun _ H K h=>?_
 unfold sA at h
 split at h
 rotate_left
 ·exact h.elim
 rename_i l k
 obtain ⟨e,f,⟨rfl,rfl,he,hf⟩,hK⟩:=h
 refine ⟨_,hK,?_⟩
 clear hK
 by_cases hk:um e f=true
 ·rw [hk,Bool.true_and]
  by_cases ha:e.act=f.act
  ·have da:(e.act==f.act)=true:=by simp [ha]
   rw [dtq ha,Bool.true_and]
   refine ACalls.fW ah (tCq nk (tCq zJ tNq)) Tryz.func56 [.tmp 4] (nrq _) (T:=ae []) (h:=fun hcl hlt=>?_)
   clear hlt
   simp only [go_sem,aN,kw,yi]
   refine ⟨e,f,⟨rfl,rfl,he,hf⟩,?_⟩
   rw [hk]
   simp only [bk,bh,bhq,Nat.reduceMod,Nat.reduceDiv,aA,az,aB,aZ,aC,aY,aS,aU,aV,yaq,yar,yao,yap,go_sem,da]
   refine ⟨e.args,f.args,⟨rfl,rfl,he.ok.al,hf.ok.al⟩,?_⟩
   try simp only [bk,bh,bhq,Nat.reduceMod,Nat.reduceDiv,aA,az,aB,aZ,aC,aY,aS,aU,aV,yaq,yar,yao,yap,go_sem]
   try simp (disch:=first|exact Zd|omega) [↓zmo,beq,ybc,ybd,ybe,ag,wk,wk2,wk1,wkM,wkL,ak,ybf,hcl]
   first|done|repeat first|exact .refl _|refine .push ?_ _
  ·have da:(e.act==f.act)=false:=by simp [ha]
   rw [dfq ha,Bool.false_and]
   refine ACalls.fW ah (tCq nk (tCq zJ tNq)) Tryz.func56 [.tmp 4] (nrq _) (T:=ae []) (h:=fun hcl hlt=>?_)
   clear hlt
   simp only [go_sem,aN,kw,yi]
   refine ⟨e,f,⟨rfl,rfl,he,hf⟩,?_⟩
   rw [hk]
   simp only [bk,bh,bhq,Nat.reduceMod,Nat.reduceDiv,aA,az,aB,aZ,aC,aY,aS,aU,aV,yaq,yar,yao,yap,go_sem,da]
   try simp (disch:=first|exact Zd|omega) [↓zmo,beq,ybc,ybd,ybe,ag,wk,wk2,wk1,wkM,wkL,ak,ybf,hcl]
   first|done|repeat first|exact .refl _|refine .push ?_ _
 ·have hk':um e f=false:=by simpa using hk
  rw [hk',Bool.false_and]
  refine ACalls.fW ah (tCq nk (tCq zJ tNq)) Tryz.func56 [.tmp 4] (nrq _) (T:=ae []) (h:=fun hcl hlt=>?_)
  clear hlt
  simp only [go_sem,aN,kw,yi]
  refine ⟨e,f,⟨rfl,rfl,he,hf⟩,?_⟩
  rw [hk']
  try simp only [bk,bh,bhq,Nat.reduceMod,Nat.reduceDiv,aA,az,aB,aZ,aC,aY,aS,aU,aV,yaq,yar,yao,yap,go_sem]
  try simp (disch:=first|exact Zd|omega) [↓zmo,beq,ybc,ybd,ybe,ag,wk,wk2,wk1,wkM,wkL,ak,ybf,hcl]
  first|done|repeat first|exact .refl _|refine .push ?_ _
theorem za {e f:SEntry}:(um e f&&(decide (e.act=f.act)&&decide (e.args=f.args)))=(xg e f==0):=by
 rw [Bool.eq_iff_iff,beq_iff_eq,Bz]
 obtain ⟨a,b,c,d,e⟩:=e
 obtain ⟨a',b',c',d',e'⟩:=f
 simp only [um,Bool.and_eq_true,decide_eq_true_eq,SEntry.mk.injEq]
 constructor
 ·rintro ⟨⟨h1,h2,h3⟩,h4,h5⟩;exact ⟨h1,h2,h3,h4,h5⟩
 ·rintro ⟨h1,h2,h3,h4,h5⟩;exact ⟨⟨h1,h2,h3⟩,h4,h5⟩
structure TPre {α:Type} (f:α→α→Int):Prop where
 anti:∀ x y,f y x = - f x y
 trans:∀ x y z,f x y≤0→f y z≤0→f x z≤0
theorem TPre.zero {α:Type}:TPre fun _ _:α=>0:=⟨fun _ _=>rfl,fun _ _ _ _ _=>by decide⟩
end Go.AL
