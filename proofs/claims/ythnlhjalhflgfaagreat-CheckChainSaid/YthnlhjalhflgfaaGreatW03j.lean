/- Lemmas of the proof; no condition. -/
import Derived.Test.YthnlhjalhflgfaaGreatW03e
set_option linter.all false
set_option maxRecDepth 10000
set_option maxHeartbeats 32000000
open List renaming length_cons → yaz, length_nil → yba, take_of_length_le → ybc, drop_append → ybd, take_append → ybe, drop_eq_nil_of_le → ybf, length_map → ybb, take_zero → yar
open Go Go.AL Go.Proofs
namespace Go.AL
theorem Ap:ti Tryz.prog 134=some ⟨.struct [(0,3,false),(1,131,false),(2,132,false)],3,24,.agg [.int .i64 0,.nilf,.nilf]⟩:=by kernel_rfl
theorem C9:ti Tryz.prog 131=some ⟨.func,1,8,.nilf⟩:=by kernel_rfl
theorem EF:ti Tryz.prog 132=some ⟨.func,1,8,.nilf⟩:=by kernel_rfl
theorem zv:ti Tryz.prog 140=some ⟨.struct [(0,3,false),(1,137,false),(2,138,false)],3,24,.agg [.int .i64 0,.nilf,.nilf]⟩:=by kernel_rfl
theorem Er:ti Tryz.prog 137=some ⟨.func,1,8,.nilf⟩:=by kernel_rfl
theorem CE:ti Tryz.prog 138=some ⟨.func,1,8,.nilf⟩:=by kernel_rfl
theorem yZ:ti Tryz.prog 146=some ⟨.struct [(0,3,false),(1,143,false),(2,144,false)],3,24,.agg [.int .i64 0,.nilf,.nilf]⟩:=by kernel_rfl
theorem FT:ti Tryz.prog 143=some ⟨.func,1,8,.nilf⟩:=by kernel_rfl
theorem Dd:ti Tryz.prog 144=some ⟨.func,1,8,.nilf⟩:=by kernel_rfl
theorem yI:ti Tryz.prog 295=some ⟨.struct [(0,3,false),(1,292,false),(2,293,false)],3,24,.agg [.int .i64 0,.nilf,.nilf]⟩:=by kernel_rfl
theorem Et:ti Tryz.prog 292=some ⟨.func,1,8,.nilf⟩:=by kernel_rfl
theorem Fl:ti Tryz.prog 293=some ⟨.func,1,8,.nilf⟩:=by kernel_rfl
attribute [go_sem] Ap C9 EF zv Er CE yZ FT Dd yI Et Fl
def xL:=eW (aH) pg ig
def CI:=jc 196 3 (aH) pg ig
theorem Fm:EntOk Tryz.prog 196 (Ent.effect xL):=by
 unfold xL
 refine EntOk.effect fun args H K h=>?_
 unfold eW at h
 split at h
 rotate_left
 ·exact h.elim
 rename_i id x
 obtain ⟨q,s,a,⟨hW,rfl,ha,hl⟩,hK⟩:=h
 refine ⟨_,_,hK,?_⟩
 clear hK
 have hF:=hW.facts
 have hcl0:=hW.closed (t:=s.add (ig a))
 have hid:=glq hW.o
 have hq:=glq hW.bu
 refine ACalls.fW ak (tCq fe (tCq km (tCq p5 (tCq n9 tNq)))) Tryz.func196 [] (by rw [ap];omega) (T:=aj [(3,[[],[],[],[],[1,3]])]) (h:=fun hcl hlt=>?_)
 clear hlt
 have hcl1:=hcl0 hcl
 unfold ig at hl hcl1 ⊢
 rw [← aI,← aI] at hl hcl1 ⊢
 have hl3:=hl
 have hl2:=aX hl3
 have hl1:=aX hl2
 simp only [go_sem,aH,cZ,inL,ap,aA]
 refine dJ (.inr rfl) (hW.push _) hl1 ?_
 rw [hF.p0]
 simp only [go_sem,aH,cZ,inL,ap,aA]
 refine mN (ha) ((hW.next _).push _) hl2 ?_
 rw [hF.p1]
 simp only [go_sem,aH,cZ,inL,ap,aA]
 refine gT (c:=.int .i64) (fun _ _=>trivial) ((hW.next _).push _) hl3 ?_
 rw [hF.p1]
 try simp only [go_sem,aH,cZ,inL,ap,aA]
 exact Z15
theorem zd:EntOk Tryz.prog 61 (Ent.effect CI):=gY vU (fun _ x=>ub x) (fun _=>⟨_,rfl,rfl,rfl⟩) fun wf sz c ok g ew es ec eo eg hone hlt' hag id most r q s l H hW ha hl=>by
 refine ACalls.fW ak (tCq bJ (tCq Fm tNq)) Tryz.func61 [] (by rw [ap];omega) (T:=aj [(2,[[],[],[],[],[],[],[],[],[4,7],[],[],[4,7]])]) (h:=fun hcl hlt=>?_)
 have hF:=hW.facts
 have hcl1:=fun t=>hW.closed (t:=t) hcl
 have hid:=glq hW.o
 have hq:=glq hW.bu
 have hll:=eE hone hl
 obtain ⟨b,sl,sf,sa⟩:=s
 have hne:=b7 hid
 have hneq:=b7 hq
 have n1:(id=q)=False:=eq_false hW.ne
 have n2:(q=id)=False:=eq_false fun e=>hW.ne e.symm
 have hcs:=aq hW.o
 have hb0:=hW.bu
 have hi0:=hW.o
 have hnn:=hW.ne
 have hlb:b.length≤b8:=aX hl
 rw [bj] at hlb
 dsimp only at hcs hb0 hi0 hlb
 have lw2:=cr (l.length:Int) 2
 clear hlt
 have hcm:=fun cs=>@bp H id cs hid
 have hA:=fun X Y=>@bG H id q X Y hnn hid
 have hB:=fun X=>ck (X:=X) hnn hb0
 have eh:=fun X Y Z=>@cj H id q X Y Z
 have hL2:sl=true→(sl||decide ((l.length:Int) > most))=true:=fun h=>by rw [h,Bool.true_or]
 have hL3:sl=false→decide ((l.length:Int) > most)=(sl||decide ((l.length:Int) > most)):=fun h=>by rw [h,Bool.false_or]
 have hst:=eI (H:=H) (id:=id) (q:=q) (b:=b) (sl:=sl) (sf:=sf) (sa:=sa) (n:=l.length) (most:=most)
 have hS1:=hW.next ((⟨b,sl,sf,sa⟩:Enc).add (dq l.length most))
 have htot:(((⟨b,sl,sf,sa⟩:Enc).add (dq l.length most)).add (bT g l))=(⟨b,sl,sf,sa⟩:Enc).add (bD g most l):=by rw [aI];rfl
 rw [← htot] at hl ⊢
 generalize ((⟨b,sl,sf,sa⟩:Enc).add (dq l.length most))=s1 at *
 generalize (sl||decide ((l.length:Int) > most))=L at *
 have hlv:∀ n,(AV.slice .any sz (l.map c)).lt n:=fun n=>aU (hlt' n)
 have hlc:=fun n=>@dB n most wf r
 cases sl
 case' true =>
  rw [hL2 rfl] at hst
  simp only [go_sem,byq,hne,hneq,n1,n2,hcs,hcm,hA,hB,eh,hi0,hb0,aN,ybb]
 case' false =>
  simp only [go_sem,byq,hne,hneq,n1,n2,hcs,hcm,hA,hB,eh,hi0,hb0,aN,ybb,hL3 rfl]
 all_goals
  (repeat with_reducible refine And.intro (by first|assumption|decide|omega|exact ⟨by omega,by omega⟩) ?_)
  refine ay (A:=Nat) (fun k=>[(0,.ptr id 0),(4,.ptr H.nx 0),(33,.slice .any sz (l.map c)),(34,.int .i64 (l.length:Int)),(35,.int .i64 (k:Int))])
   (fun k=>(swH H id q (s1.add (bT g (l.take k)))).push (.cells (bm most wf r))) (fun k=>k≤l.length) (fun k=>l.length - k) 0 (by omega) ?_ fun k hk=>?_
  ·rw [yar,bT,dr,hst]
   refine ⟨by simp only [zkq,zkv,zle,zlf,ap];omega,by repeat first|exact .refl _|refine .push ?_ _,?_,?_,?_⟩
   ·rw [← hst];exact ae (hcl1 _) (hlc _)
   ·simp [ltF,zle,zlf,znn,znf,hlv]
    omega
   ·simp [ba,wk2,wk1,wkM,Fr.get]
  simp only [go_sem]
  refine ah (fun hc=>?_) (fun hc=>?_)
  ·have hk':k<l.length:=by simp at hc;omega
   obtain ⟨x,hx⟩:∃ x,x=l[k]:=⟨_,rfl⟩
   have hg:=cV (f:=c) (l:=l) (k:=k) (x:=x) (by rw [gQq hk',hx])
   have e5:=Yk5 k
   have hxo:=ha x (by rw [hx];exact gMq hk')
   obtain ⟨es',hlk⟩:=dD (g:=g) hk' hx hl
   have hSk:=hW.next (s1.add (bT g (l.take k)))
   obtain ⟨cs,hcc,hcl3,hall⟩:=hag x
   have hsp:∀ zs:List AV,zs.length=sz→splice zs 0 cs=cs:=fun zs hz=>cG (hz.trans hcl3.symm)
   have hts:List.take sz cs=cs:=ybc (by omega)
   rw [hcc] at hg
   clear hag
   subst ew es ec eo eg
   simp only [go_sem,iNq,ybb,hg,hcl3,hts,hall,hsp,if_true,yaz,yba,ap,bm,bj]
   refine ⟨by omega,?_⟩
   rw [← hcc]
   refine mZ hxo (hSk.push2 _ _) hlk ?_
   rw [hF.p2,es']
   simp only [go_sem,e5]
   refine ⟨k+1,by omega,by omega,by simp only [zkq,zkv,zle,ap];omega,by repeat first|exact .refl _|refine .push ?_ _,ae (hcl1 _) (hlc _),?_,?_⟩
   ·simp [ltF,zle,ap,znn,znf,hlv]
    omega
   ·simp [ba,wk2,wk1,wkM,Fr.get]
  ·have hk':k=l.length:=by simp at hc;omega
   subst hk'
   rw [List.take_length]
   simp only [go_sem]
   refine ⟨?_,by repeat first|exact .refl _|refine .push ?_ _,hcl1 _,?_⟩
   ·simp [wk,wk2,wk1,af]
   ·simp [zns,znv]
def fT:List AV→AHeap→(AV→Prop)→Prop
 |[],_,K=>K (.agg (bm 8 196 199))
 |_,_,_=>False
theorem BW:EntOk Tryz.prog 62 (Ent.pure fT):=by
 refine Ype fun _ H K h=>?_
 unfold fT at h
 split at h
 rotate_left
 ·exact h.elim
 refine ⟨_,h,?_⟩
 refine ACalls.fW ak tNq Tryz.func62 [.cell 0 134] (nrq _) (T:=aj []) (h:=fun hcl hlt=>?_)
 clear hlt
 simp only [go_sem,bm]
 exact Z16
def x8:=eW (aL) th jw
def Cr:=jc 201 5 (aL) th jw
theorem FX:EntOk Tryz.prog 201 (Ent.effect x8):=by
 unfold x8
 refine EntOk.effect fun args H K h=>?_
 unfold eW at h
 split at h
 rotate_left
 ·exact h.elim
 rename_i id x
 obtain ⟨q,s,a,⟨hW,rfl,ha,hl⟩,hK⟩:=h
 refine ⟨_,_,hK,?_⟩
 clear hK
 have hF:=hW.facts
 have hcl0:=hW.closed (t:=s.add (jw a))
 have hid:=glq hW.o
 have hq:=glq hW.bu
 refine ACalls.fW ak (tCq fe (tCq EV (tCq zQ tNq))) Tryz.func201 [] (by rw [ap];omega) (T:=aj [(4,[[],[],[],[],[1,3]])]) (h:=fun hcl hlt=>?_)
 clear hlt
 have hcl1:=hcl0 hcl
 unfold jw at hl hcl1 ⊢
 rw [← aI,← aI,← aI,← aI] at hl hcl1 ⊢
 have hl5:=hl
 have hl4:=aX hl5
 have hl3:=aX hl4
 have hl2:=aX hl3
 have hl1:=aX hl2
 simp only [go_sem,aL,jf,ap,aA]
 refine dJ (.inr rfl) (hW.push _) hl1 ?_
 rw [hF.p0]
 simp only [go_sem,aL,jf,ap,aA]
 refine dJ (.inr rfl) ((hW.next _).push _) hl2 ?_
 rw [hF.p1]
 simp only [go_sem,aL,jf,ap,aA]
 refine dJ (.inr rfl) ((hW.next _).push _) hl3 ?_
 rw [hF.p1]
 simp only [go_sem,aL,jf,ap,aA]
 refine gT (c:=cM) (ha) ((hW.next _).push _) hl4 ?_
 rw [hF.p1]
 simp only [go_sem,aL,jf,ap,aA]
 refine dJ (.inr rfl) ((hW.next _).push _) hl5 ?_
 rw [hF.p1]
 try simp only [go_sem,aL,jf,ap,aA]
 exact Z15
theorem zD:EntOk Tryz.prog 63 (Ent.effect Cr):=gY yH (fun _ x=>vQ x) (fun _=>⟨_,rfl,rfl,rfl⟩) fun wf sz c ok g ew es ec eo eg hone hlt' hag id most r q s l H hW ha hl=>by
 refine ACalls.fW ak (tCq bJ (tCq FX tNq)) Tryz.func63 [] (by rw [ap];omega) (T:=aj [(2,[[],[],[],[],[],[],[],[],[4,7],[],[],[4,7]])]) (h:=fun hcl hlt=>?_)
 have hF:=hW.facts
 have hcl1:=fun t=>hW.closed (t:=t) hcl
 have hid:=glq hW.o
 have hq:=glq hW.bu
 have hll:=eE hone hl
 obtain ⟨b,sl,sf,sa⟩:=s
 have hne:=b7 hid
 have hneq:=b7 hq
 have n1:(id=q)=False:=eq_false hW.ne
 have n2:(q=id)=False:=eq_false fun e=>hW.ne e.symm
 have hcs:=aq hW.o
 have hb0:=hW.bu
 have hi0:=hW.o
 have hnn:=hW.ne
 have hlb:b.length≤b8:=aX hl
 rw [bj] at hlb
 dsimp only at hcs hb0 hi0 hlb
 have lw2:=cr (l.length:Int) 2
 clear hlt
 have hcm:=fun cs=>@bp H id cs hid
 have hA:=fun X Y=>@bG H id q X Y hnn hid
 have hB:=fun X=>ck (X:=X) hnn hb0
 have eh:=fun X Y Z=>@cj H id q X Y Z
 have hL2:sl=true→(sl||decide ((l.length:Int) > most))=true:=fun h=>by rw [h,Bool.true_or]
 have hL3:sl=false→decide ((l.length:Int) > most)=(sl||decide ((l.length:Int) > most)):=fun h=>by rw [h,Bool.false_or]
 have hst:=eI (H:=H) (id:=id) (q:=q) (b:=b) (sl:=sl) (sf:=sf) (sa:=sa) (n:=l.length) (most:=most)
 have hS1:=hW.next ((⟨b,sl,sf,sa⟩:Enc).add (dq l.length most))
 have htot:(((⟨b,sl,sf,sa⟩:Enc).add (dq l.length most)).add (bT g l))=(⟨b,sl,sf,sa⟩:Enc).add (bD g most l):=by rw [aI];rfl
 rw [← htot] at hl ⊢
 generalize ((⟨b,sl,sf,sa⟩:Enc).add (dq l.length most))=s1 at *
 generalize (sl||decide ((l.length:Int) > most))=L at *
 have hlv:∀ n,(AV.slice .any sz (l.map c)).lt n:=fun n=>aU (hlt' n)
 have hlc:=fun n=>@dB n most wf r
 cases sl
 case' true =>
  rw [hL2 rfl] at hst
  simp only [go_sem,byq,hne,hneq,n1,n2,hcs,hcm,hA,hB,eh,hi0,hb0,aN,ybb]
 case' false =>
  simp only [go_sem,byq,hne,hneq,n1,n2,hcs,hcm,hA,hB,eh,hi0,hb0,aN,ybb,hL3 rfl]
 all_goals
  (repeat with_reducible refine And.intro (by first|assumption|decide|omega|exact ⟨by omega,by omega⟩) ?_)
  refine ay (A:=Nat) (fun k=>[(0,.ptr id 0),(4,.ptr H.nx 0),(33,.slice .any sz (l.map c)),(34,.int .i64 (l.length:Int)),(35,.int .i64 (k:Int))])
   (fun k=>(swH H id q (s1.add (bT g (l.take k)))).push (.cells (bm most wf r))) (fun k=>k≤l.length) (fun k=>l.length - k) 0 (by omega) ?_ fun k hk=>?_
  ·rw [yar,bT,dr,hst]
   refine ⟨by simp only [zkq,zkv,zle,zlf,ap];omega,by repeat first|exact .refl _|refine .push ?_ _,?_,?_,?_⟩
   ·rw [← hst];exact ae (hcl1 _) (hlc _)
   ·simp [ltF,zle,zlf,znn,znf,hlv]
    omega
   ·simp [ba,wk2,wk1,wkM,Fr.get]
  simp only [go_sem]
  refine ah (fun hc=>?_) (fun hc=>?_)
  ·have hk':k<l.length:=by simp at hc;omega
   obtain ⟨x,hx⟩:∃ x,x=l[k]:=⟨_,rfl⟩
   have hg:=cV (f:=c) (l:=l) (k:=k) (x:=x) (by rw [gQq hk',hx])
   have e5:=Yk5 k
   have hxo:=ha x (by rw [hx];exact gMq hk')
   obtain ⟨es',hlk⟩:=dD (g:=g) hk' hx hl
   have hSk:=hW.next (s1.add (bT g (l.take k)))
   obtain ⟨cs,hcc,hcl3,hall⟩:=hag x
   have hsp:∀ zs:List AV,zs.length=sz→splice zs 0 cs=cs:=fun zs hz=>cG (hz.trans hcl3.symm)
   have hts:List.take sz cs=cs:=ybc (by omega)
   rw [hcc] at hg
   clear hag
   subst ew es ec eo eg
   simp only [go_sem,iNq,ybb,hg,hcl3,hts,hall,hsp,if_true,yaz,yba,ap,bm,bj]
   refine ⟨by omega,?_⟩
   rw [← hcc]
   refine mZ hxo (hSk.push2 _ _) hlk ?_
   rw [hF.p2,es']
   simp only [go_sem,e5]
   refine ⟨k+1,by omega,by omega,by simp only [zkq,zkv,zle,ap];omega,by repeat first|exact .refl _|refine .push ?_ _,ae (hcl1 _) (hlc _),?_,?_⟩
   ·simp [ltF,zle,ap,znn,znf,hlv]
    omega
   ·simp [ba,wk2,wk1,wkM,Fr.get]
  ·have hk':k=l.length:=by simp at hc;omega
   subst hk'
   rw [List.take_length]
   simp only [go_sem]
   refine ⟨?_,by repeat first|exact .refl _|refine .push ?_ _,hcl1 _,?_⟩
   ·simp [wk,wk2,wk1,af]
   ·simp [zns,znv]
def fN:List AV→AHeap→(AV→Prop)→Prop
 |[],_,K=>K (.agg (bm 12 201 204))
 |_,_,_=>False
theorem FD:EntOk Tryz.prog 64 (Ent.pure fN):=by
 refine Ype fun _ H K h=>?_
 unfold fN at h
 split at h
 rotate_left
 ·exact h.elim
 refine ⟨_,h,?_⟩
 refine ACalls.fW ak tNq Tryz.func64 [.cell 0 140] (nrq _) (T:=aj []) (h:=fun hcl hlt=>?_)
 clear hlt
 simp only [go_sem,bm]
 exact Z16
def xr:=eW (ax) kI gM
def A3:=jc 206 5 (ax) kI gM
theorem EX:EntOk Tryz.prog 206 (Ent.effect xr):=by
 unfold xr
 refine EntOk.effect fun args H K h=>?_
 unfold eW at h
 split at h
 rotate_left
 ·exact h.elim
 rename_i id x
 obtain ⟨q,s,a,⟨hW,rfl,ha,hl⟩,hK⟩:=h
 refine ⟨_,_,hK,?_⟩
 clear hK
 have hF:=hW.facts
 have hcl0:=hW.closed (t:=s.add (gM a))
 have hid:=glq hW.o
 have hq:=glq hW.bu
 refine ACalls.fW ak (tCq fe (tCq km (tCq B3 (tCq zf (tCq DN (tCq y4 tNq)))))) Tryz.func206 [] (by rw [ap];omega) (T:=aj [(3,[[],[],[],[],[1,3]]),(4,[[],[],[],[],[1,3]])]) (h:=fun hcl hlt=>?_)
 clear hlt
 have hcl1:=hcl0 hcl
 unfold gM at hl hcl1 ⊢
 rw [← aI,← aI,← aI,← aI] at hl hcl1 ⊢
 have hl5:=hl
 have hl4:=aX hl5
 have hl3:=aX hl4
 have hl2:=aX hl3
 have hl1:=aX hl2
 simp only [go_sem,ax,jk,jn,ap,aA]
 refine dJ (.inr rfl) (hW.push _) hl1 ?_
 rw [hF.p0]
 simp only [go_sem,ax,jk,jn,ap,aA]
 refine mN (ha.1) ((hW.next _).push _) hl2 ?_
 rw [hF.p1]
 simp only [go_sem,ax,jk,jn,ap,aA]
 refine gT (c:=bv) (ha.2.1) ((hW.next _).push _) hl3 ?_
 rw [hF.p1]
 simp only [go_sem,ax,jk,jn,ap,aA]
 refine gT (c:=cl) (ha.2.2.1) ((hW.next _).push _) hl4 ?_
 rw [hF.p1]
 simp only [go_sem,ax,jk,jn,ap,aA]
 refine mN (ha.2.2.2) ((hW.next _).push _) hl5 ?_
 rw [hF.p1]
 try simp only [go_sem,ax,jk,jn,ap,aA]
 exact Z15
theorem yO:EntOk Tryz.prog 65 (Ent.effect A3):=gY wQ (fun _ x=>vg x) (fun _=>⟨_,rfl,rfl,rfl⟩) fun wf sz c ok g ew es ec eo eg hone hlt' hag id most r q s l H hW ha hl=>by
 refine ACalls.fW ak (tCq bJ (tCq EX tNq)) Tryz.func65 [] (by rw [ap];omega) (T:=aj [(2,[[],[],[],[],[],[],[],[],[4,7],[],[],[4,7]])]) (h:=fun hcl hlt=>?_)
 have hF:=hW.facts
 have hcl1:=fun t=>hW.closed (t:=t) hcl
 have hid:=glq hW.o
 have hq:=glq hW.bu
 have hll:=eE hone hl
 obtain ⟨b,sl,sf,sa⟩:=s
 have hne:=b7 hid
 have hneq:=b7 hq
 have n1:(id=q)=False:=eq_false hW.ne
 have n2:(q=id)=False:=eq_false fun e=>hW.ne e.symm
 have hcs:=aq hW.o
 have hb0:=hW.bu
 have hi0:=hW.o
 have hnn:=hW.ne
 have hlb:b.length≤b8:=aX hl
 rw [bj] at hlb
 dsimp only at hcs hb0 hi0 hlb
 have lw2:=cr (l.length:Int) 2
 clear hlt
 have hcm:=fun cs=>@bp H id cs hid
 have hA:=fun X Y=>@bG H id q X Y hnn hid
 have hB:=fun X=>ck (X:=X) hnn hb0
 have eh:=fun X Y Z=>@cj H id q X Y Z
 have hL2:sl=true→(sl||decide ((l.length:Int) > most))=true:=fun h=>by rw [h,Bool.true_or]
 have hL3:sl=false→decide ((l.length:Int) > most)=(sl||decide ((l.length:Int) > most)):=fun h=>by rw [h,Bool.false_or]
 have hst:=eI (H:=H) (id:=id) (q:=q) (b:=b) (sl:=sl) (sf:=sf) (sa:=sa) (n:=l.length) (most:=most)
 have hS1:=hW.next ((⟨b,sl,sf,sa⟩:Enc).add (dq l.length most))
 have htot:(((⟨b,sl,sf,sa⟩:Enc).add (dq l.length most)).add (bT g l))=(⟨b,sl,sf,sa⟩:Enc).add (bD g most l):=by rw [aI];rfl
 rw [← htot] at hl ⊢
 generalize ((⟨b,sl,sf,sa⟩:Enc).add (dq l.length most))=s1 at *
 generalize (sl||decide ((l.length:Int) > most))=L at *
 have hlv:∀ n,(AV.slice .any sz (l.map c)).lt n:=fun n=>aU (hlt' n)
 have hlc:=fun n=>@dB n most wf r
 cases sl
 case' true =>
  rw [hL2 rfl] at hst
  simp only [go_sem,byq,hne,hneq,n1,n2,hcs,hcm,hA,hB,eh,hi0,hb0,aN,ybb]
 case' false =>
  simp only [go_sem,byq,hne,hneq,n1,n2,hcs,hcm,hA,hB,eh,hi0,hb0,aN,ybb,hL3 rfl]
 all_goals
  (repeat with_reducible refine And.intro (by first|assumption|decide|omega|exact ⟨by omega,by omega⟩) ?_)
  refine ay (A:=Nat) (fun k=>[(0,.ptr id 0),(4,.ptr H.nx 0),(33,.slice .any sz (l.map c)),(34,.int .i64 (l.length:Int)),(35,.int .i64 (k:Int))])
   (fun k=>(swH H id q (s1.add (bT g (l.take k)))).push (.cells (bm most wf r))) (fun k=>k≤l.length) (fun k=>l.length - k) 0 (by omega) ?_ fun k hk=>?_
  ·rw [yar,bT,dr,hst]
   refine ⟨by simp only [zkq,zkv,zle,zlf,ap];omega,by repeat first|exact .refl _|refine .push ?_ _,?_,?_,?_⟩
   ·rw [← hst];exact ae (hcl1 _) (hlc _)
   ·simp [ltF,zle,zlf,znn,znf,hlv]
    omega
   ·simp [ba,wk2,wk1,wkM,Fr.get]
  simp only [go_sem]
  refine ah (fun hc=>?_) (fun hc=>?_)
  ·have hk':k<l.length:=by simp at hc;omega
   obtain ⟨x,hx⟩:∃ x,x=l[k]:=⟨_,rfl⟩
   have hg:=cV (f:=c) (l:=l) (k:=k) (x:=x) (by rw [gQq hk',hx])
   have e5:=Yk5 k
   have hxo:=ha x (by rw [hx];exact gMq hk')
   obtain ⟨es',hlk⟩:=dD (g:=g) hk' hx hl
   have hSk:=hW.next (s1.add (bT g (l.take k)))
   obtain ⟨cs,hcc,hcl3,hall⟩:=hag x
   have hsp:∀ zs:List AV,zs.length=sz→splice zs 0 cs=cs:=fun zs hz=>cG (hz.trans hcl3.symm)
   have hts:List.take sz cs=cs:=ybc (by omega)
   rw [hcc] at hg
   clear hag
   subst ew es ec eo eg
   simp only [go_sem,iNq,ybb,hg,hcl3,hts,hall,hsp,if_true,yaz,yba,ap,bm,bj]
   refine ⟨by omega,?_⟩
   rw [← hcc]
   refine mZ hxo (hSk.push2 _ _) hlk ?_
   rw [hF.p2,es']
   simp only [go_sem,e5]
   refine ⟨k+1,by omega,by omega,by simp only [zkq,zkv,zle,ap];omega,by repeat first|exact .refl _|refine .push ?_ _,ae (hcl1 _) (hlc _),?_,?_⟩
   ·simp [ltF,zle,ap,znn,znf,hlv]
    omega
   ·simp [ba,wk2,wk1,wkM,Fr.get]
  ·have hk':k=l.length:=by simp at hc;omega
   subst hk'
   rw [List.take_length]
   simp only [go_sem]
   refine ⟨?_,by repeat first|exact .refl _|refine .push ?_ _,hcl1 _,?_⟩
   ·simp [wk,wk2,wk1,af]
   ·simp [zns,znv]
def fU:List AV→AHeap→(AV→Prop)→Prop
 |[],_,K=>K (.agg (bm 12 206 211))
 |_,_,_=>False
theorem EZ:EntOk Tryz.prog 66 (Ent.pure fU):=by
 refine Ype fun _ H K h=>?_
 unfold fU at h
 split at h
 rotate_left
 ·exact h.elim
 refine ⟨_,h,?_⟩
 refine ACalls.fW ak tNq Tryz.func66 [.cell 0 146] (nrq _) (T:=aj []) (h:=fun hcl hlt=>?_)
 clear hlt
 simp only [go_sem,bm]
 exact Z16
def xz:=eW (bk) nn jV
def FY:=jc 312 4 (bk) nn jV
theorem Fz:EntOk Tryz.prog 312 (Ent.effect xz):=by
 unfold xz
 refine EntOk.effect fun args H K h=>?_
 unfold eW at h
 split at h
 rotate_left
 ·exact h.elim
 rename_i id x
 obtain ⟨q,s,a,⟨hW,rfl,ha,hl⟩,hK⟩:=h
 refine ⟨_,_,hK,?_⟩
 clear hK
 have hF:=hW.facts
 have hcl0:=hW.closed (t:=s.add (jV a))
 have hid:=glq hW.o
 have hq:=glq hW.bu
 refine ACalls.fW ak (tCq fe (tCq tx (tCq Dj (tCq zZ tNq)))) Tryz.func312 [] (by rw [ap];omega) (T:=aj [(4,[[],[],[],[],[1,3]])]) (h:=fun hcl hlt=>?_)
 clear hlt
 have hcl1:=hcl0 hcl
 unfold jV at hl hcl1 ⊢
 rw [← aI,← aI,← aI] at hl hcl1 ⊢
 have hl4:=hl
 have hl3:=aX hl4
 have hl2:=aX hl3
 have hl1:=aX hl2
 simp only [go_sem,bk,jZ,boL,ap,aA]
 refine dJ (.inr rfl) (hW.push _) hl1 ?_
 rw [hF.p0]
 simp only [go_sem,bk,jZ,boL,ap,aA]
 refine xm ((hW.next _).push _) hl2 ?_
 rw [hF.p1]
 simp only [go_sem,bk,jZ,boL,ap,aA]
 refine xm ((hW.next _).push _) hl3 ?_
 rw [hF.p1]
 simp only [go_sem,bk,jZ,boL,ap,aA]
 refine gT (c:=.bool) (fun _ _=>trivial) ((hW.next _).push _) hl4 ?_
 rw [hF.p1]
 try simp only [go_sem,bk,jZ,boL,ap,aA]
 exact Z15
theorem z9:EntOk Tryz.prog 225 (Ent.effect FY):=gY Ad (fun _ x=>pk x) (fun _=>⟨_,rfl,rfl,rfl⟩) fun wf sz c ok g ew es ec eo eg hone hlt' hag id most r q s l H hW ha hl=>by
 refine ACalls.fW ak (tCq bJ (tCq Fz tNq)) Tryz.func225 [] (by rw [ap];omega) (T:=aj [(2,[[],[],[],[],[],[],[],[],[4,7],[],[],[4,7]])]) (h:=fun hcl hlt=>?_)
 have hF:=hW.facts
 have hcl1:=fun t=>hW.closed (t:=t) hcl
 have hid:=glq hW.o
 have hq:=glq hW.bu
 have hll:=eE hone hl
 obtain ⟨b,sl,sf,sa⟩:=s
 have hne:=b7 hid
 have hneq:=b7 hq
 have n1:(id=q)=False:=eq_false hW.ne
 have n2:(q=id)=False:=eq_false fun e=>hW.ne e.symm
 have hcs:=aq hW.o
 have hb0:=hW.bu
 have hi0:=hW.o
 have hnn:=hW.ne
 have hlb:b.length≤b8:=aX hl
 rw [bj] at hlb
 dsimp only at hcs hb0 hi0 hlb
 have lw2:=cr (l.length:Int) 2
 clear hlt
 have hcm:=fun cs=>@bp H id cs hid
 have hA:=fun X Y=>@bG H id q X Y hnn hid
 have hB:=fun X=>ck (X:=X) hnn hb0
 have eh:=fun X Y Z=>@cj H id q X Y Z
 have hL2:sl=true→(sl||decide ((l.length:Int) > most))=true:=fun h=>by rw [h,Bool.true_or]
 have hL3:sl=false→decide ((l.length:Int) > most)=(sl||decide ((l.length:Int) > most)):=fun h=>by rw [h,Bool.false_or]
 have hst:=eI (H:=H) (id:=id) (q:=q) (b:=b) (sl:=sl) (sf:=sf) (sa:=sa) (n:=l.length) (most:=most)
 have hS1:=hW.next ((⟨b,sl,sf,sa⟩:Enc).add (dq l.length most))
 have htot:(((⟨b,sl,sf,sa⟩:Enc).add (dq l.length most)).add (bT g l))=(⟨b,sl,sf,sa⟩:Enc).add (bD g most l):=by rw [aI];rfl
 rw [← htot] at hl ⊢
 generalize ((⟨b,sl,sf,sa⟩:Enc).add (dq l.length most))=s1 at *
 generalize (sl||decide ((l.length:Int) > most))=L at *
 have hlv:∀ n,(AV.slice .any sz (l.map c)).lt n:=fun n=>aU (hlt' n)
 have hlc:=fun n=>@dB n most wf r
 cases sl
 case' true =>
  rw [hL2 rfl] at hst
  simp only [go_sem,byq,hne,hneq,n1,n2,hcs,hcm,hA,hB,eh,hi0,hb0,aN,ybb]
 case' false =>
  simp only [go_sem,byq,hne,hneq,n1,n2,hcs,hcm,hA,hB,eh,hi0,hb0,aN,ybb,hL3 rfl]
 all_goals
  (repeat with_reducible refine And.intro (by first|assumption|decide|omega|exact ⟨by omega,by omega⟩) ?_)
  refine ay (A:=Nat) (fun k=>[(0,.ptr id 0),(4,.ptr H.nx 0),(33,.slice .any sz (l.map c)),(34,.int .i64 (l.length:Int)),(35,.int .i64 (k:Int))])
   (fun k=>(swH H id q (s1.add (bT g (l.take k)))).push (.cells (bm most wf r))) (fun k=>k≤l.length) (fun k=>l.length - k) 0 (by omega) ?_ fun k hk=>?_
  ·rw [yar,bT,dr,hst]
   refine ⟨by simp only [zkq,zkv,zle,zlf,ap];omega,by repeat first|exact .refl _|refine .push ?_ _,?_,?_,?_⟩
   ·rw [← hst];exact ae (hcl1 _) (hlc _)
   ·simp [ltF,zle,zlf,znn,znf,hlv]
    omega
   ·simp [ba,wk2,wk1,wkM,Fr.get]
  simp only [go_sem]
  refine ah (fun hc=>?_) (fun hc=>?_)
  ·have hk':k<l.length:=by simp at hc;omega
   obtain ⟨x,hx⟩:∃ x,x=l[k]:=⟨_,rfl⟩
   have hg:=cV (f:=c) (l:=l) (k:=k) (x:=x) (by rw [gQq hk',hx])
   have e5:=Yk5 k
   have hxo:=ha x (by rw [hx];exact gMq hk')
   obtain ⟨es',hlk⟩:=dD (g:=g) hk' hx hl
   have hSk:=hW.next (s1.add (bT g (l.take k)))
   obtain ⟨cs,hcc,hcl3,hall⟩:=hag x
   have hsp:∀ zs:List AV,zs.length=sz→splice zs 0 cs=cs:=fun zs hz=>cG (hz.trans hcl3.symm)
   have hts:List.take sz cs=cs:=ybc (by omega)
   rw [hcc] at hg
   clear hag
   subst ew es ec eo eg
   simp only [go_sem,iNq,ybb,hg,hcl3,hts,hall,hsp,if_true,yaz,yba,ap,bm,bj]
   refine ⟨by omega,?_⟩
   rw [← hcc]
   refine mZ hxo (hSk.push2 _ _) hlk ?_
   rw [hF.p2,es']
   simp only [go_sem,e5]
   refine ⟨k+1,by omega,by omega,by simp only [zkq,zkv,zle,ap];omega,by repeat first|exact .refl _|refine .push ?_ _,ae (hcl1 _) (hlc _),?_,?_⟩
   ·simp [ltF,zle,ap,znn,znf,hlv]
    omega
   ·simp [ba,wk2,wk1,wkM,Fr.get]
  ·have hk':k=l.length:=by simp at hc;omega
   subst hk'
   rw [List.take_length]
   simp only [go_sem]
   refine ⟨?_,by repeat first|exact .refl _|refine .push ?_ _,hcl1 _,?_⟩
   ·simp [wk,wk2,wk1,af]
   ·simp [zns,znv]
def iI:List AV→AHeap→(AV→Prop)→Prop
 |[],_,K=>K (.agg (bm 8 312 315))
 |_,_,_=>False
theorem Ci:EntOk Tryz.prog 226 (Ent.pure iI):=by
 refine Ype fun _ H K h=>?_
 unfold iI at h
 split at h
 rotate_left
 ·exact h.elim
 refine ⟨_,h,?_⟩
 refine ACalls.fW ak tNq Tryz.func226 [.cell 0 295] (nrq _) (T:=aj []) (h:=fun hcl hlt=>?_)
 clear hlt
 simp only [go_sem,bm]
 exact Z16
theorem zA:ti Tryz.prog 152=some ⟨.struct [(0,3,false),(1,149,false),(2,150,false)],3,24,.agg [.int .i64 0,.nilf,.nilf]⟩:=by kernel_rfl
theorem E2:ti Tryz.prog 149=some ⟨.func,1,8,.nilf⟩:=by kernel_rfl
theorem D9:ti Tryz.prog 150=some ⟨.func,1,8,.nilf⟩:=by kernel_rfl
theorem yG:ti Tryz.prog 164=some ⟨.struct [(0,3,false),(1,161,false),(2,162,false)],3,24,.agg [.int .i64 0,.nilf,.nilf]⟩:=by kernel_rfl
theorem Bg:ti Tryz.prog 161=some ⟨.func,1,8,.nilf⟩:=by kernel_rfl
theorem FI:ti Tryz.prog 162=some ⟨.func,1,8,.nilf⟩:=by kernel_rfl
attribute [go_sem] zA E2 D9 yG Bg FI
def xn:=eW (az) nd i9
def ET:=jc 214 8 (az) nd i9
theorem Fp:EntOk Tryz.prog 214 (Ent.effect xn):=by
 unfold xn
 refine EntOk.effect fun args H K h=>?_
 unfold eW at h
 split at h
 rotate_left
 ·exact h.elim
 rename_i id x
 obtain ⟨q,s,a,⟨hW,rfl,ha,hl⟩,hK⟩:=h
 refine ⟨_,_,hK,?_⟩
 clear hK
 have hF:=hW.facts
 have hcl0:=hW.closed (t:=s.add (i9 a))
 have hid:=glq hW.o
 have hq:=glq hW.bu
 refine ACalls.fW ak (tCq fe (tCq km (tCq EP (tCq zY (tCq p5 (tCq n9 (tCq CK (tCq y0 tNq)))))))) Tryz.func214 [] (by rw [ap];omega) (T:=aj [(3,[[],[],[],[],[1,3]]),(4,[[],[],[],[],[1,3]]),(6,[[],[],[],[],[1,3]])]) (h:=fun hcl hlt=>?_)
 clear hlt
 have hcl1:=hcl0 hcl
 unfold i9 at hl hcl1 ⊢
 rw [← aI,← aI,← aI,← aI,← aI,← aI,← aI] at hl hcl1 ⊢
 have hl8:=hl
 have hl7:=aX hl8
 have hl6:=aX hl7
 have hl5:=aX hl6
 have hl4:=aX hl5
 have hl3:=aX hl4
 have hl2:=aX hl3
 have hl1:=aX hl2
 simp only [go_sem,az,cZ,gz,gu,inL,ap,aA]
 refine dJ (.inr rfl) (hW.push _) hl1 ?_
 rw [hF.p0]
 simp only [go_sem,az,cZ,gz,gu,inL,ap,aA]
 refine mN (ha.1) ((hW.next _).push _) hl2 ?_
 rw [hF.p1]
 simp only [go_sem,az,cZ,gz,gu,inL,ap,aA]
 refine gT (c:=bN) (ha.2.1) ((hW.next _).push _) hl3 ?_
 rw [hF.p1]
 simp only [go_sem,az,cZ,gz,gu,inL,ap,aA]
 refine gT (c:=.int .i64) (fun _ _=>trivial) ((hW.next _).push _) hl4 ?_
 rw [hF.p1]
 simp only [go_sem,az,cZ,gz,gu,inL,ap,aA]
 refine dJ (.inr rfl) ((hW.next _).push _) hl5 ?_
 rw [hF.p1]
 simp only [go_sem,az,cZ,gz,gu,inL,ap,aA]
 refine gT (c:=vv) (ha.2.2.1) ((hW.next _).push _) hl6 ?_
 rw [hF.p1]
 simp only [go_sem,az,cZ,gz,gu,inL,ap,aA]
 refine dJ (.inr rfl) ((hW.next _).push _) hl7 ?_
 rw [hF.p1]
 simp only [go_sem,az,cZ,gz,gu,inL,ap,aA]
 refine mN (ha.2.2.2) ((hW.next _).push _) hl8 ?_
 rw [hF.p1]
 try simp only [go_sem,az,cZ,gz,gu,inL,ap,aA]
 exact Z15
theorem Am:EntOk Tryz.prog 67 (Ent.effect ET):=gY zc (fun _ x=>wV x) (fun _=>⟨_,rfl,rfl,rfl⟩) fun wf sz c ok g ew es ec eo eg hone hlt' hag id most r q s l H hW ha hl=>by
 refine ACalls.fW ak (tCq bJ (tCq Fp tNq)) Tryz.func67 [] (by rw [ap];omega) (T:=aj [(2,[[],[],[],[],[],[],[],[],[4,7],[],[],[4,7]])]) (h:=fun hcl hlt=>?_)
 have hF:=hW.facts
 have hcl1:=fun t=>hW.closed (t:=t) hcl
 have hid:=glq hW.o
 have hq:=glq hW.bu
 have hll:=eE hone hl
 obtain ⟨b,sl,sf,sa⟩:=s
 have hne:=b7 hid
 have hneq:=b7 hq
 have n1:(id=q)=False:=eq_false hW.ne
 have n2:(q=id)=False:=eq_false fun e=>hW.ne e.symm
 have hcs:=aq hW.o
 have hb0:=hW.bu
 have hi0:=hW.o
 have hnn:=hW.ne
 have hlb:b.length≤b8:=aX hl
 rw [bj] at hlb
 dsimp only at hcs hb0 hi0 hlb
 have lw2:=cr (l.length:Int) 2
 clear hlt
 have hcm:=fun cs=>@bp H id cs hid
 have hA:=fun X Y=>@bG H id q X Y hnn hid
 have hB:=fun X=>ck (X:=X) hnn hb0
 have eh:=fun X Y Z=>@cj H id q X Y Z
 have hL2:sl=true→(sl||decide ((l.length:Int) > most))=true:=fun h=>by rw [h,Bool.true_or]
 have hL3:sl=false→decide ((l.length:Int) > most)=(sl||decide ((l.length:Int) > most)):=fun h=>by rw [h,Bool.false_or]
 have hst:=eI (H:=H) (id:=id) (q:=q) (b:=b) (sl:=sl) (sf:=sf) (sa:=sa) (n:=l.length) (most:=most)
 have hS1:=hW.next ((⟨b,sl,sf,sa⟩:Enc).add (dq l.length most))
 have htot:(((⟨b,sl,sf,sa⟩:Enc).add (dq l.length most)).add (bT g l))=(⟨b,sl,sf,sa⟩:Enc).add (bD g most l):=by rw [aI];rfl
 rw [← htot] at hl ⊢
 generalize ((⟨b,sl,sf,sa⟩:Enc).add (dq l.length most))=s1 at *
 generalize (sl||decide ((l.length:Int) > most))=L at *
 have hlv:∀ n,(AV.slice .any sz (l.map c)).lt n:=fun n=>aU (hlt' n)
 have hlc:=fun n=>@dB n most wf r
 cases sl
 case' true =>
  rw [hL2 rfl] at hst
  simp only [go_sem,byq,hne,hneq,n1,n2,hcs,hcm,hA,hB,eh,hi0,hb0,aN,ybb]
 case' false =>
  simp only [go_sem,byq,hne,hneq,n1,n2,hcs,hcm,hA,hB,eh,hi0,hb0,aN,ybb,hL3 rfl]
 all_goals
  (repeat with_reducible refine And.intro (by first|assumption|decide|omega|exact ⟨by omega,by omega⟩) ?_)
  refine ay (A:=Nat) (fun k=>[(0,.ptr id 0),(4,.ptr H.nx 0),(33,.slice .any sz (l.map c)),(34,.int .i64 (l.length:Int)),(35,.int .i64 (k:Int))])
   (fun k=>(swH H id q (s1.add (bT g (l.take k)))).push (.cells (bm most wf r))) (fun k=>k≤l.length) (fun k=>l.length - k) 0 (by omega) ?_ fun k hk=>?_
  ·rw [yar,bT,dr,hst]
   refine ⟨by simp only [zkq,zkv,zle,zlf,ap];omega,by repeat first|exact .refl _|refine .push ?_ _,?_,?_,?_⟩
   ·rw [← hst];exact ae (hcl1 _) (hlc _)
   ·simp [ltF,zle,zlf,znn,znf,hlv]
    omega
   ·simp [ba,wk2,wk1,wkM,Fr.get]
  simp only [go_sem]
  refine ah (fun hc=>?_) (fun hc=>?_)
  ·have hk':k<l.length:=by simp at hc;omega
   obtain ⟨x,hx⟩:∃ x,x=l[k]:=⟨_,rfl⟩
   have hg:=cV (f:=c) (l:=l) (k:=k) (x:=x) (by rw [gQq hk',hx])
   have e5:=Yk5 k
   have hxo:=ha x (by rw [hx];exact gMq hk')
   obtain ⟨es',hlk⟩:=dD (g:=g) hk' hx hl
   have hSk:=hW.next (s1.add (bT g (l.take k)))
   obtain ⟨cs,hcc,hcl3,hall⟩:=hag x
   have hsp:∀ zs:List AV,zs.length=sz→splice zs 0 cs=cs:=fun zs hz=>cG (hz.trans hcl3.symm)
   have hts:List.take sz cs=cs:=ybc (by omega)
   rw [hcc] at hg
   clear hag
   subst ew es ec eo eg
   simp only [go_sem,iNq,ybb,hg,hcl3,hts,hall,hsp,if_true,yaz,yba,ap,bm,bj]
   refine ⟨by omega,?_⟩
   rw [← hcc]
   refine mZ hxo (hSk.push2 _ _) hlk ?_
   rw [hF.p2,es']
   simp only [go_sem,e5]
   refine ⟨k+1,by omega,by omega,by simp only [zkq,zkv,zle,ap];omega,by repeat first|exact .refl _|refine .push ?_ _,ae (hcl1 _) (hlc _),?_,?_⟩
   ·simp [ltF,zle,ap,znn,znf,hlv]
    omega
   ·simp [ba,wk2,wk1,wkM,Fr.get]
  ·have hk':k=l.length:=by simp at hc;omega
   subst hk'
   rw [List.take_length]
   simp only [go_sem]
   refine ⟨?_,by repeat first|exact .refl _|refine .push ?_ _,hcl1 _,?_⟩
   ·simp [wk,wk2,wk1,af]
   ·simp [zns,znv]
def fM:List AV→AHeap→(AV→Prop)→Prop
 |[],_,K=>K (.agg (bm 8 214 219))
 |_,_,_=>False
theorem Cq:EntOk Tryz.prog 68 (Ent.pure fM):=by
 refine Ype fun _ H K h=>?_
 unfold fM at h
 split at h
 rotate_left
 ·exact h.elim
 refine ⟨_,h,?_⟩
 refine ACalls.fW ak tNq Tryz.func68 [.cell 0 152] (nrq _) (T:=aj []) (h:=fun hcl hlt=>?_)
 clear hlt
 simp only [go_sem,bm]
 exact Z16
def yp:=eW (br) vE kH
def Ba:=jc 224 6 (br) vE kH
theorem Fh:EntOk Tryz.prog 224 (Ent.effect yp):=by
 unfold yp
 refine EntOk.effect fun args H K h=>?_
 unfold eW at h
 split at h
 rotate_left
 ·exact h.elim
 rename_i id x
 obtain ⟨q,s,a,⟨hW,rfl,ha,hl⟩,hK⟩:=h
 refine ⟨_,_,hK,?_⟩
 clear hK
 have hF:=hW.facts
 have hcl0:=hW.closed (t:=s.add (kH a))
 have hid:=glq hW.o
 have hq:=glq hW.bu
 refine ACalls.fW ak (tCq fe (tCq km (tCq Ci (tCq z9 (tCq p5 (tCq n9 (tCq tx tNq))))))) Tryz.func224 [] (by rw [ap];omega) (T:=aj [(3,[[],[],[],[],[1,3]]),(4,[[],[],[],[],[1,3]])]) (h:=fun hcl hlt=>?_)
 clear hlt
 have hcl1:=hcl0 hcl
 unfold kH at hl hcl1 ⊢
 rw [← aI,← aI,← aI,← aI,← aI] at hl hcl1 ⊢
 have hl6:=hl
 have hl5:=aX hl6
 have hl4:=aX hl5
 have hl3:=aX hl4
 have hl2:=aX hl3
 have hl1:=aX hl2
 simp only [go_sem,br,iI,cZ,inL,ap,aA]
 refine dJ (.inr rfl) (hW.push _) hl1 ?_
 rw [hF.p0]
 simp only [go_sem,br,iI,cZ,inL,ap,aA]
 refine mN (ha) ((hW.next _).push _) hl2 ?_
 rw [hF.p1]
 simp only [go_sem,br,iI,cZ,inL,ap,aA]
 refine gT (c:=bk) (fun _ _=>trivial) ((hW.next _).push _) hl3 ?_
 rw [hF.p1]
 simp only [go_sem,br,iI,cZ,inL,ap,aA]
 refine gT (c:=.int .i64) (fun _ _=>trivial) ((hW.next _).push _) hl4 ?_
 rw [hF.p1]
 simp only [go_sem,br,iI,cZ,inL,ap,aA]
 refine dJ (.inr rfl) ((hW.next _).push _) hl5 ?_
 rw [hF.p1]
 simp only [go_sem,br,iI,cZ,inL,ap,aA]
 refine xm ((hW.next _).push _) hl6 ?_
 rw [hF.p1]
 try simp only [go_sem,br,iI,cZ,inL,ap,aA]
 exact Z15
theorem zG:EntOk Tryz.prog 71 (Ent.effect Ba):=gY EL (fun _ x=>y7 x) (fun _=>⟨_,rfl,rfl,rfl⟩) fun wf sz c ok g ew es ec eo eg hone hlt' hag id most r q s l H hW ha hl=>by
 refine ACalls.fW ak (tCq bJ (tCq Fh tNq)) Tryz.func71 [] (by rw [ap];omega) (T:=aj [(2,[[],[],[],[],[],[],[],[],[4,7],[],[],[4,7]])]) (h:=fun hcl hlt=>?_)
 have hF:=hW.facts
 have hcl1:=fun t=>hW.closed (t:=t) hcl
 have hid:=glq hW.o
 have hq:=glq hW.bu
 have hll:=eE hone hl
 obtain ⟨b,sl,sf,sa⟩:=s
 have hne:=b7 hid
 have hneq:=b7 hq
 have n1:(id=q)=False:=eq_false hW.ne
 have n2:(q=id)=False:=eq_false fun e=>hW.ne e.symm
 have hcs:=aq hW.o
 have hb0:=hW.bu
 have hi0:=hW.o
 have hnn:=hW.ne
 have hlb:b.length≤b8:=aX hl
 rw [bj] at hlb
 dsimp only at hcs hb0 hi0 hlb
 have lw2:=cr (l.length:Int) 2
 clear hlt
 have hcm:=fun cs=>@bp H id cs hid
 have hA:=fun X Y=>@bG H id q X Y hnn hid
 have hB:=fun X=>ck (X:=X) hnn hb0
 have eh:=fun X Y Z=>@cj H id q X Y Z
 have hL2:sl=true→(sl||decide ((l.length:Int) > most))=true:=fun h=>by rw [h,Bool.true_or]
 have hL3:sl=false→decide ((l.length:Int) > most)=(sl||decide ((l.length:Int) > most)):=fun h=>by rw [h,Bool.false_or]
 have hst:=eI (H:=H) (id:=id) (q:=q) (b:=b) (sl:=sl) (sf:=sf) (sa:=sa) (n:=l.length) (most:=most)
 have hS1:=hW.next ((⟨b,sl,sf,sa⟩:Enc).add (dq l.length most))
 have htot:(((⟨b,sl,sf,sa⟩:Enc).add (dq l.length most)).add (bT g l))=(⟨b,sl,sf,sa⟩:Enc).add (bD g most l):=by rw [aI];rfl
 rw [← htot] at hl ⊢
 generalize ((⟨b,sl,sf,sa⟩:Enc).add (dq l.length most))=s1 at *
 generalize (sl||decide ((l.length:Int) > most))=L at *
 have hlv:∀ n,(AV.slice .any sz (l.map c)).lt n:=fun n=>aU (hlt' n)
 have hlc:=fun n=>@dB n most wf r
 cases sl
 case' true =>
  rw [hL2 rfl] at hst
  simp only [go_sem,byq,hne,hneq,n1,n2,hcs,hcm,hA,hB,eh,hi0,hb0,aN,ybb]
 case' false =>
  simp only [go_sem,byq,hne,hneq,n1,n2,hcs,hcm,hA,hB,eh,hi0,hb0,aN,ybb,hL3 rfl]
 all_goals
  (repeat with_reducible refine And.intro (by first|assumption|decide|omega|exact ⟨by omega,by omega⟩) ?_)
  refine ay (A:=Nat) (fun k=>[(0,.ptr id 0),(4,.ptr H.nx 0),(33,.slice .any sz (l.map c)),(34,.int .i64 (l.length:Int)),(35,.int .i64 (k:Int))])
   (fun k=>(swH H id q (s1.add (bT g (l.take k)))).push (.cells (bm most wf r))) (fun k=>k≤l.length) (fun k=>l.length - k) 0 (by omega) ?_ fun k hk=>?_
  ·rw [yar,bT,dr,hst]
   refine ⟨by simp only [zkq,zkv,zle,zlf,ap];omega,by repeat first|exact .refl _|refine .push ?_ _,?_,?_,?_⟩
   ·rw [← hst];exact ae (hcl1 _) (hlc _)
   ·simp [ltF,zle,zlf,znn,znf,hlv]
    omega
   ·simp [ba,wk2,wk1,wkM,Fr.get]
  simp only [go_sem]
  refine ah (fun hc=>?_) (fun hc=>?_)
  ·have hk':k<l.length:=by simp at hc;omega
   obtain ⟨x,hx⟩:∃ x,x=l[k]:=⟨_,rfl⟩
   have hg:=cV (f:=c) (l:=l) (k:=k) (x:=x) (by rw [gQq hk',hx])
   have e5:=Yk5 k
   have hxo:=ha x (by rw [hx];exact gMq hk')
   obtain ⟨es',hlk⟩:=dD (g:=g) hk' hx hl
   have hSk:=hW.next (s1.add (bT g (l.take k)))
   obtain ⟨cs,hcc,hcl3,hall⟩:=hag x
   have hsp:∀ zs:List AV,zs.length=sz→splice zs 0 cs=cs:=fun zs hz=>cG (hz.trans hcl3.symm)
   have hts:List.take sz cs=cs:=ybc (by omega)
   rw [hcc] at hg
   clear hag
   subst ew es ec eo eg
   simp only [go_sem,iNq,ybb,hg,hcl3,hts,hall,hsp,if_true,yaz,yba,ap,bm,bj]
   refine ⟨by omega,?_⟩
   rw [← hcc]
   refine mZ hxo (hSk.push2 _ _) hlk ?_
   rw [hF.p2,es']
   simp only [go_sem,e5]
   refine ⟨k+1,by omega,by omega,by simp only [zkq,zkv,zle,ap];omega,by repeat first|exact .refl _|refine .push ?_ _,ae (hcl1 _) (hlc _),?_,?_⟩
   ·simp [ltF,zle,ap,znn,znf,hlv]
    omega
   ·simp [ba,wk2,wk1,wkM,Fr.get]
  ·have hk':k=l.length:=by simp at hc;omega
   subst hk'
   rw [List.take_length]
   simp only [go_sem]
   refine ⟨?_,by repeat first|exact .refl _|refine .push ?_ _,hcl1 _,?_⟩
   ·simp [wk,wk2,wk1,af]
   ·simp [zns,znv]
def fO:List AV→AHeap→(AV→Prop)→Prop
 |[],_,K=>K (.agg (bm 6 224 228))
 |_,_,_=>False
theorem DB:EntOk Tryz.prog 72 (Ent.pure fO):=by
 refine Ype fun _ H K h=>?_
 unfold fO at h
 split at h
 rotate_left
 ·exact h.elim
 refine ⟨_,h,?_⟩
 refine ACalls.fW ak tNq Tryz.func72 [.cell 0 164] (nrq _) (T:=aj []) (h:=fun hcl hlt=>?_)
 clear hlt
 simp only [go_sem,bm]
 exact Z16
theorem Hp:ti Tryz.prog 231=some ⟨.struct [(0,22,false),(1,4,false),(2,4,false),(3,4,false)],4,32,.agg [.slice .nil 1 [],.bool false,.bool false,.bool false]⟩:=by kernel_rfl
theorem Cl:ti Tryz.prog 229=some ⟨.ptr 231,1,8,.nilp⟩:=by kernel_rfl
attribute [go_sem] Hp Cl
end Go.AL
