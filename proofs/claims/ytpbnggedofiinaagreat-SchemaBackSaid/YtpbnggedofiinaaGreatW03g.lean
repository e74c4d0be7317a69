/- Lemmas of the proof; no condition. -/
import Derived.Test.YtpbnggedofiinaaGreatW03e
set_option linter.all false
set_option maxRecDepth 10000
set_option maxHeartbeats 32000000
open List renaming length_cons → yaz, length_nil → yba, take_of_length_le → ybc, drop_append → ybd, take_append → ybe, drop_eq_nil_of_le → ybf, length_map → ybb, take_zero → yar
open Go Go.AL Go.Proofs
namespace Go.AL
theorem Az:ti Tryz.prog 142=some ⟨.struct [(0,3,false),(1,139,false),(2,140,false)],3,24,.agg [.int .i64 0,.nilf,.nilf]⟩:=by kernel_rfl
theorem Eg:ti Tryz.prog 139=some ⟨.func,1,8,.nilf⟩:=by kernel_rfl
theorem EF:ti Tryz.prog 140=some ⟨.func,1,8,.nilf⟩:=by kernel_rfl
theorem z4:ti Tryz.prog 151=some ⟨.struct [(0,3,false),(1,148,false),(2,149,false)],3,24,.agg [.int .i64 0,.nilf,.nilf]⟩:=by kernel_rfl
theorem D5:ti Tryz.prog 148=some ⟨.func,1,8,.nilf⟩:=by kernel_rfl
theorem Ee:ti Tryz.prog 149=some ⟨.func,1,8,.nilf⟩:=by kernel_rfl
theorem Ap:ti Tryz.prog 161=some ⟨.struct [(0,3,false),(1,158,false),(2,159,false)],3,24,.agg [.int .i64 0,.nilf,.nilf]⟩:=by kernel_rfl
theorem DT:ti Tryz.prog 158=some ⟨.func,1,8,.nilf⟩:=by kernel_rfl
theorem CN:ti Tryz.prog 159=some ⟨.func,1,8,.nilf⟩:=by kernel_rfl
theorem zM:ti Tryz.prog 308=some ⟨.struct [(0,3,false),(1,305,false),(2,306,false)],3,24,.agg [.int .i64 0,.nilf,.nilf]⟩:=by kernel_rfl
theorem CU:ti Tryz.prog 305=some ⟨.func,1,8,.nilf⟩:=by kernel_rfl
theorem BQ:ti Tryz.prog 306=some ⟨.func,1,8,.nilf⟩:=by kernel_rfl
attribute [go_sem] Az Eg EF z4 D5 Ee Ap DT CN zM CU BQ
def yq:=eW (bc) rC fD
def Do:=kF 155 3 (bc) rC fD
theorem DG:EntOk Tryz.prog 155 (Ent.effect yq):=by
 unfold yq
 refine EntOk.effect fun args H K h=>?_
 unfold eW at h
 split at h
 rotate_left
 ·exact h.elim
 rename_i id x
 obtain ⟨q,s,a,⟨hW,rfl,ha,hl⟩,hK⟩:=h
 refine ⟨_,_,hK,?_⟩
 clear hK
 have hF:=hW.facts
 have hcl0:=hW.closed (t:=s.add (fD a))
 have hid:=glq hW.o
 have hq:=glq hW.bu
 refine ACalls.fW ag (tCq fE (tCq lL (tCq lC (tCq pM tNq)))) Tryz.func155 [] (by rw [ai];omega) (T:=af [(3,[[],[],[],[],[1,3]])]) (h:=fun hcl hlt=>?_)
 clear hlt
 have hcl1:=hcl0 hcl
 unfold fD at hl hcl1 ⊢
 rw [← am,← am] at hl hcl1 ⊢
 have hl3:=hl
 have hl2:=aE hl3
 have hl1:=aE hl2
 simp only [go_sem,bc,cX,inL,ai,au]
 refine ek (.inr rfl) (hW.push _) hl1 ?_
 rw [hF.p0]
 simp only [go_sem,bc,cX,inL,ai,au]
 refine ox (ha) ((hW.next _).push _) hl2 ?_
 rw [hF.p1]
 simp only [go_sem,bc,cX,inL,ai,au]
 refine fX (c:=.int .i64) (fun _ _=>trivial) ((hW.next _).push _) hl3 ?_
 rw [hF.p1]
 try simp only [go_sem,bc,cX,inL,ai,au]
 exact Z7
theorem tL:EntOk Tryz.prog 64 (Ent.effect Do):=ju xp (fun _ x=>fm x) (fun _=>⟨_,rfl,rfl,rfl⟩) fun wf sz c ok g ew es ec eo eg hone hlt' hag id most r q s l H hW ha hl=>by
 refine ACalls.fW ag (tCq bO (tCq DG tNq)) Tryz.func64 [] (by rw [ai];omega) (T:=af [(2,[[],[],[],[],[],[],[],[],[4,7],[],[],[4,7]])]) (h:=fun hcl hlt=>?_)
 have hF:=hW.facts
 have hcl1:=fun t=>hW.closed (t:=t) hcl
 have hid:=glq hW.o
 have hq:=glq hW.bu
 have hll:=fB hone hl
 obtain ⟨b,sl,sf,sa⟩:=s
 have hne:=aL hid
 have hneq:=aL hq
 have n1:(id=q)=False:=eq_false hW.ne
 have n2:(q=id)=False:=eq_false fun e=>hW.ne e.symm
 have hcs:=ax hW.o
 have hb0:=hW.bu
 have hi0:=hW.o
 have hnn:=hW.ne
 have hlb:b.length≤ce:=aE hl
 rw [aZ] at hlb
 dsimp only at hcs hb0 hi0 hlb
 have lw2:=cn (l.length:Int) 2
 clear hlt
 have hcm:=fun cs=>@al H id cs hid
 have hA:=fun X Y=>@bI H id q X Y hnn hid
 have hB:=fun X=>cE (X:=X) hnn hb0
 have eh:=fun X Y Z=>@cD H id q X Y Z
 have hL2:sl=true→(sl||decide ((l.length:Int) > most))=true:=fun h=>by rw [h,Bool.true_or]
 have hL3:sl=false→decide ((l.length:Int) > most)=(sl||decide ((l.length:Int) > most)):=fun h=>by rw [h,Bool.false_or]
 have hst:=fC (H:=H) (id:=id) (q:=q) (b:=b) (sl:=sl) (sf:=sf) (sa:=sa) (n:=l.length) (most:=most)
 have hS1:=hW.next ((⟨b,sl,sf,sa⟩:Enc).add (ei l.length most))
 have htot:(((⟨b,sl,sf,sa⟩:Enc).add (ei l.length most)).add (bD g l))=(⟨b,sl,sf,sa⟩:Enc).add (bC g most l):=by rw [am];rfl
 rw [← htot] at hl ⊢
 generalize ((⟨b,sl,sf,sa⟩:Enc).add (ei l.length most))=s1 at *
 generalize (sl||decide ((l.length:Int) > most))=L at *
 have hlv:∀ n,(AV.slice .any sz (l.map c)).lt n:=fun n=>aA (hlt' n)
 have hlc:=fun n=>@eH n most wf r
 cases sl
 case' true =>
  rw [hL2 rfl] at hst
  simp only [go_sem,byq,hne,hneq,n1,n2,hcs,hcm,hA,hB,eh,hi0,hb0,aD,ybb]
 case' false =>
  simp only [go_sem,byq,hne,hneq,n1,n2,hcs,hcm,hA,hB,eh,hi0,hb0,aD,ybb,hL3 rfl]
 all_goals
  (repeat with_reducible refine And.intro (by first|assumption|decide|omega|exact ⟨by omega,by omega⟩) ?_)
  refine aq (A:=Nat) (fun k=>[(0,.ptr id 0),(4,.ptr H.nx 0),(33,.slice .any sz (l.map c)),(34,.int .i64 (l.length:Int)),(35,.int .i64 (k:Int))])
   (fun k=>(swH H id q (s1.add (bD g (l.take k)))).push (.cells (aP most wf r))) (fun k=>k≤l.length) (fun k=>l.length - k) 0 (by omega) ?_ fun k hk=>?_
  ·rw [yar,bD,ej,hst]
   refine ⟨by simp only [zkq,zkv,zle,zlf,ai];omega,by repeat first|exact .refl _|refine .push ?_ _,?_,?_,?_⟩
   ·rw [← hst];exact aj (hcl1 _) (hlc _)
   ·simp [ltF,zle,zlf,znn,znf,hlv]
    omega
   ·simp [aM,wk2,wk1,wkM,Fr.get]
  simp only [go_sem]
  refine ae (fun hc=>?_) (fun hc=>?_)
  ·have hk':k<l.length:=by simp at hc;omega
   obtain ⟨x,hx⟩:∃ x,x=l[k]:=⟨_,rfl⟩
   have hg:=av (f:=c) (l:=l) (k:=k) (x:=x) (by rw [gQq hk',hx])
   have e5:=Yk5 k
   have hxo:=ha x (by rw [hx];exact gMq hk')
   obtain ⟨es',hlk⟩:=eC (g:=g) hk' hx hl
   have hSk:=hW.next (s1.add (bD g (l.take k)))
   obtain ⟨cs,hcc,hcl3,hall⟩:=hag x
   have hsp:∀ zs:List AV,zs.length=sz→splice zs 0 cs=cs:=fun zs hz=>dX (hz.trans hcl3.symm)
   have hts:List.take sz cs=cs:=ybc (by omega)
   rw [hcc] at hg
   clear hag
   subst ew es ec eo eg
   simp only [go_sem,iNq,ybb,hg,hcl3,hts,hall,hsp,if_true,yaz,yba,ai,aP,aZ]
   refine ⟨by omega,?_⟩
   rw [← hcc]
   refine n9 hxo (hSk.push2 _ _) hlk ?_
   rw [hF.p2,es']
   simp only [go_sem,e5]
   refine ⟨k+1,by omega,by omega,by simp only [zkq,zkv,zle,ai];omega,by repeat first|exact .refl _|refine .push ?_ _,aj (hcl1 _) (hlc _),?_,?_⟩
   ·simp [ltF,zle,ai,znn,znf,hlv]
    omega
   ·simp [aM,wk2,wk1,wkM,Fr.get]
  ·have hk':k=l.length:=by simp at hc;omega
   subst hk'
   rw [List.take_length]
   simp only [go_sem]
   refine ⟨?_,by repeat first|exact .refl _|refine .push ?_ _,hcl1 _,?_⟩
   ·simp [wk,wk2,wk1,ak]
   ·simp [zns,znv]
def dh:List AV→AHeap→(AV→Prop)→Prop
 |[],_,K=>K (.agg (aP 8 155 158))
 |_,_,_=>False
theorem oh:EntOk Tryz.prog 65 (Ent.pure dh):=by
 refine Ype fun _ H K h=>?_
 unfold dh at h
 split at h
 rotate_left
 ·exact h.elim
 refine ⟨_,h,?_⟩
 refine ACalls.fW ag tNq Tryz.func65 [.cell 0 142] (nrq _) (T:=af []) (h:=fun hcl hlt=>?_)
 clear hlt
 simp only [go_sem,aP]
 exact Z8
def yB:=eW (a0) tS iK
def Bo:=kF 160 5 (a0) tS iK
theorem Dc:EntOk Tryz.prog 160 (Ent.effect yB):=by
 unfold yB
 refine EntOk.effect fun args H K h=>?_
 unfold eW at h
 split at h
 rotate_left
 ·exact h.elim
 rename_i id x
 obtain ⟨q,s,a,⟨hW,rfl,ha,hl⟩,hK⟩:=h
 refine ⟨_,_,hK,?_⟩
 clear hK
 have hF:=hW.facts
 have hcl0:=hW.closed (t:=s.add (iK a))
 have hid:=glq hW.o
 have hq:=glq hW.bu
 refine ACalls.fW ag (tCq fE (tCq wo (tCq Bj tNq))) Tryz.func160 [] (by rw [ai];omega) (T:=af [(4,[[],[],[],[],[1,3]])]) (h:=fun hcl hlt=>?_)
 clear hlt
 have hcl1:=hcl0 hcl
 unfold iK at hl hcl1 ⊢
 rw [← am,← am,← am,← am] at hl hcl1 ⊢
 have hl5:=hl
 have hl4:=aE hl5
 have hl3:=aE hl4
 have hl2:=aE hl3
 have hl1:=aE hl2
 simp only [go_sem,a0,j8,ai,au]
 refine ek (.inr rfl) (hW.push _) hl1 ?_
 rw [hF.p0]
 simp only [go_sem,a0,j8,ai,au]
 refine ek (.inr rfl) ((hW.next _).push _) hl2 ?_
 rw [hF.p1]
 simp only [go_sem,a0,j8,ai,au]
 refine ek (.inr rfl) ((hW.next _).push _) hl3 ?_
 rw [hF.p1]
 simp only [go_sem,a0,j8,ai,au]
 refine fX (c:=bW) (ha) ((hW.next _).push _) hl4 ?_
 rw [hF.p1]
 simp only [go_sem,a0,j8,ai,au]
 refine ek (.inr rfl) ((hW.next _).push _) hl5 ?_
 rw [hF.p1]
 try simp only [go_sem,a0,j8,ai,au]
 exact Z7
theorem s7:EntOk Tryz.prog 66 (Ent.effect Bo):=ju zP (fun _ x=>gc x) (fun _=>⟨_,rfl,rfl,rfl⟩) fun wf sz c ok g ew es ec eo eg hone hlt' hag id most r q s l H hW ha hl=>by
 refine ACalls.fW ag (tCq bO (tCq Dc tNq)) Tryz.func66 [] (by rw [ai];omega) (T:=af [(2,[[],[],[],[],[],[],[],[],[4,7],[],[],[4,7]])]) (h:=fun hcl hlt=>?_)
 have hF:=hW.facts
 have hcl1:=fun t=>hW.closed (t:=t) hcl
 have hid:=glq hW.o
 have hq:=glq hW.bu
 have hll:=fB hone hl
 obtain ⟨b,sl,sf,sa⟩:=s
 have hne:=aL hid
 have hneq:=aL hq
 have n1:(id=q)=False:=eq_false hW.ne
 have n2:(q=id)=False:=eq_false fun e=>hW.ne e.symm
 have hcs:=ax hW.o
 have hb0:=hW.bu
 have hi0:=hW.o
 have hnn:=hW.ne
 have hlb:b.length≤ce:=aE hl
 rw [aZ] at hlb
 dsimp only at hcs hb0 hi0 hlb
 have lw2:=cn (l.length:Int) 2
 clear hlt
 have hcm:=fun cs=>@al H id cs hid
 have hA:=fun X Y=>@bI H id q X Y hnn hid
 have hB:=fun X=>cE (X:=X) hnn hb0
 have eh:=fun X Y Z=>@cD H id q X Y Z
 have hL2:sl=true→(sl||decide ((l.length:Int) > most))=true:=fun h=>by rw [h,Bool.true_or]
 have hL3:sl=false→decide ((l.length:Int) > most)=(sl||decide ((l.length:Int) > most)):=fun h=>by rw [h,Bool.false_or]
 have hst:=fC (H:=H) (id:=id) (q:=q) (b:=b) (sl:=sl) (sf:=sf) (sa:=sa) (n:=l.length) (most:=most)
 have hS1:=hW.next ((⟨b,sl,sf,sa⟩:Enc).add (ei l.length most))
 have htot:(((⟨b,sl,sf,sa⟩:Enc).add (ei l.length most)).add (bD g l))=(⟨b,sl,sf,sa⟩:Enc).add (bC g most l):=by rw [am];rfl
 rw [← htot] at hl ⊢
 generalize ((⟨b,sl,sf,sa⟩:Enc).add (ei l.length most))=s1 at *
 generalize (sl||decide ((l.length:Int) > most))=L at *
 have hlv:∀ n,(AV.slice .any sz (l.map c)).lt n:=fun n=>aA (hlt' n)
 have hlc:=fun n=>@eH n most wf r
 cases sl
 case' true =>
  rw [hL2 rfl] at hst
  simp only [go_sem,byq,hne,hneq,n1,n2,hcs,hcm,hA,hB,eh,hi0,hb0,aD,ybb]
 case' false =>
  simp only [go_sem,byq,hne,hneq,n1,n2,hcs,hcm,hA,hB,eh,hi0,hb0,aD,ybb,hL3 rfl]
 all_goals
  (repeat with_reducible refine And.intro (by first|assumption|decide|omega|exact ⟨by omega,by omega⟩) ?_)
  refine aq (A:=Nat) (fun k=>[(0,.ptr id 0),(4,.ptr H.nx 0),(33,.slice .any sz (l.map c)),(34,.int .i64 (l.length:Int)),(35,.int .i64 (k:Int))])
   (fun k=>(swH H id q (s1.add (bD g (l.take k)))).push (.cells (aP most wf r))) (fun k=>k≤l.length) (fun k=>l.length - k) 0 (by omega) ?_ fun k hk=>?_
  ·rw [yar,bD,ej,hst]
   refine ⟨by simp only [zkq,zkv,zle,zlf,ai];omega,by repeat first|exact .refl _|refine .push ?_ _,?_,?_,?_⟩
   ·rw [← hst];exact aj (hcl1 _) (hlc _)
   ·simp [ltF,zle,zlf,znn,znf,hlv]
    omega
   ·simp [aM,wk2,wk1,wkM,Fr.get]
  simp only [go_sem]
  refine ae (fun hc=>?_) (fun hc=>?_)
  ·have hk':k<l.length:=by simp at hc;omega
   obtain ⟨x,hx⟩:∃ x,x=l[k]:=⟨_,rfl⟩
   have hg:=av (f:=c) (l:=l) (k:=k) (x:=x) (by rw [gQq hk',hx])
   have e5:=Yk5 k
   have hxo:=ha x (by rw [hx];exact gMq hk')
   obtain ⟨es',hlk⟩:=eC (g:=g) hk' hx hl
   have hSk:=hW.next (s1.add (bD g (l.take k)))
   obtain ⟨cs,hcc,hcl3,hall⟩:=hag x
   have hsp:∀ zs:List AV,zs.length=sz→splice zs 0 cs=cs:=fun zs hz=>dX (hz.trans hcl3.symm)
   have hts:List.take sz cs=cs:=ybc (by omega)
   rw [hcc] at hg
   clear hag
   subst ew es ec eo eg
   simp only [go_sem,iNq,ybb,hg,hcl3,hts,hall,hsp,if_true,yaz,yba,ai,aP,aZ]
   refine ⟨by omega,?_⟩
   rw [← hcc]
   refine n9 hxo (hSk.push2 _ _) hlk ?_
   rw [hF.p2,es']
   simp only [go_sem,e5]
   refine ⟨k+1,by omega,by omega,by simp only [zkq,zkv,zle,ai];omega,by repeat first|exact .refl _|refine .push ?_ _,aj (hcl1 _) (hlc _),?_,?_⟩
   ·simp [ltF,zle,ai,znn,znf,hlv]
    omega
   ·simp [aM,wk2,wk1,wkM,Fr.get]
  ·have hk':k=l.length:=by simp at hc;omega
   subst hk'
   rw [List.take_length]
   simp only [go_sem]
   refine ⟨?_,by repeat first|exact .refl _|refine .push ?_ _,hcl1 _,?_⟩
   ·simp [wk,wk2,wk1,ak]
   ·simp [zns,znv]
def dq:List AV→AHeap→(AV→Prop)→Prop
 |[],_,K=>K (.agg (aP 12 160 163))
 |_,_,_=>False
theorem nW:EntOk Tryz.prog 67 (Ent.pure dq):=by
 refine Ype fun _ H K h=>?_
 unfold dq at h
 split at h
 rotate_left
 ·exact h.elim
 refine ⟨_,h,?_⟩
 refine ACalls.fW ag tNq Tryz.func67 [.cell 0 151] (nrq _) (T:=af []) (h:=fun hcl hlt=>?_)
 clear hlt
 simp only [go_sem,aP]
 exact Z8
def zw:=eW (aI) mJ fA
def Dn:=kF 165 5 (aI) mJ fA
theorem Es:EntOk Tryz.prog 165 (Ent.effect zw):=by
 unfold zw
 refine EntOk.effect fun args H K h=>?_
 unfold eW at h
 split at h
 rotate_left
 ·exact h.elim
 rename_i id x
 obtain ⟨q,s,a,⟨hW,rfl,ha,hl⟩,hK⟩:=h
 refine ⟨_,_,hK,?_⟩
 clear hK
 have hF:=hW.facts
 have hcl0:=hW.closed (t:=s.add (fA a))
 have hid:=glq hW.o
 have hq:=glq hW.bu
 refine ACalls.fW ag (tCq fE (tCq lL (tCq vN (tCq Ag (tCq wx (tCq Ah tNq)))))) Tryz.func165 [] (by rw [ai];omega) (T:=af [(3,[[],[],[],[],[1,3]]),(4,[[],[],[],[],[1,3]])]) (h:=fun hcl hlt=>?_)
 clear hlt
 have hcl1:=hcl0 hcl
 unfold fA at hl hcl1 ⊢
 rw [← am,← am,← am,← am] at hl hcl1 ⊢
 have hl5:=hl
 have hl4:=aE hl5
 have hl3:=aE hl4
 have hl2:=aE hl3
 have hl1:=aE hl2
 simp only [go_sem,aI,j0,kb,ai,au]
 refine ek (.inr rfl) (hW.push _) hl1 ?_
 rw [hF.p0]
 simp only [go_sem,aI,j0,kb,ai,au]
 refine ox (ha.1) ((hW.next _).push _) hl2 ?_
 rw [hF.p1]
 simp only [go_sem,aI,j0,kb,ai,au]
 refine fX (c:=bE) (ha.2.1) ((hW.next _).push _) hl3 ?_
 rw [hF.p1]
 simp only [go_sem,aI,j0,kb,ai,au]
 refine fX (c:=bY) (ha.2.2.1) ((hW.next _).push _) hl4 ?_
 rw [hF.p1]
 simp only [go_sem,aI,j0,kb,ai,au]
 refine ox (ha.2.2.2) ((hW.next _).push _) hl5 ?_
 rw [hF.p1]
 try simp only [go_sem,aI,j0,kb,ai,au]
 exact Z7
theorem sL:EntOk Tryz.prog 68 (Ent.effect Dn):=ju wG (fun _ x=>fj x) (fun _=>⟨_,rfl,rfl,rfl⟩) fun wf sz c ok g ew es ec eo eg hone hlt' hag id most r q s l H hW ha hl=>by
 refine ACalls.fW ag (tCq bO (tCq Es tNq)) Tryz.func68 [] (by rw [ai];omega) (T:=af [(2,[[],[],[],[],[],[],[],[],[4,7],[],[],[4,7]])]) (h:=fun hcl hlt=>?_)
 have hF:=hW.facts
 have hcl1:=fun t=>hW.closed (t:=t) hcl
 have hid:=glq hW.o
 have hq:=glq hW.bu
 have hll:=fB hone hl
 obtain ⟨b,sl,sf,sa⟩:=s
 have hne:=aL hid
 have hneq:=aL hq
 have n1:(id=q)=False:=eq_false hW.ne
 have n2:(q=id)=False:=eq_false fun e=>hW.ne e.symm
 have hcs:=ax hW.o
 have hb0:=hW.bu
 have hi0:=hW.o
 have hnn:=hW.ne
 have hlb:b.length≤ce:=aE hl
 rw [aZ] at hlb
 dsimp only at hcs hb0 hi0 hlb
 have lw2:=cn (l.length:Int) 2
 clear hlt
 have hcm:=fun cs=>@al H id cs hid
 have hA:=fun X Y=>@bI H id q X Y hnn hid
 have hB:=fun X=>cE (X:=X) hnn hb0
 have eh:=fun X Y Z=>@cD H id q X Y Z
 have hL2:sl=true→(sl||decide ((l.length:Int) > most))=true:=fun h=>by rw [h,Bool.true_or]
 have hL3:sl=false→decide ((l.length:Int) > most)=(sl||decide ((l.length:Int) > most)):=fun h=>by rw [h,Bool.false_or]
 have hst:=fC (H:=H) (id:=id) (q:=q) (b:=b) (sl:=sl) (sf:=sf) (sa:=sa) (n:=l.length) (most:=most)
 have hS1:=hW.next ((⟨b,sl,sf,sa⟩:Enc).add (ei l.length most))
 have htot:(((⟨b,sl,sf,sa⟩:Enc).add (ei l.length most)).add (bD g l))=(⟨b,sl,sf,sa⟩:Enc).add (bC g most l):=by rw [am];rfl
 rw [← htot] at hl ⊢
 generalize ((⟨b,sl,sf,sa⟩:Enc).add (ei l.length most))=s1 at *
 generalize (sl||decide ((l.length:Int) > most))=L at *
 have hlv:∀ n,(AV.slice .any sz (l.map c)).lt n:=fun n=>aA (hlt' n)
 have hlc:=fun n=>@eH n most wf r
 cases sl
 case' true =>
  rw [hL2 rfl] at hst
  simp only [go_sem,byq,hne,hneq,n1,n2,hcs,hcm,hA,hB,eh,hi0,hb0,aD,ybb]
 case' false =>
  simp only [go_sem,byq,hne,hneq,n1,n2,hcs,hcm,hA,hB,eh,hi0,hb0,aD,ybb,hL3 rfl]
 all_goals
  (repeat with_reducible refine And.intro (by first|assumption|decide|omega|exact ⟨by omega,by omega⟩) ?_)
  refine aq (A:=Nat) (fun k=>[(0,.ptr id 0),(4,.ptr H.nx 0),(33,.slice .any sz (l.map c)),(34,.int .i64 (l.length:Int)),(35,.int .i64 (k:Int))])
   (fun k=>(swH H id q (s1.add (bD g (l.take k)))).push (.cells (aP most wf r))) (fun k=>k≤l.length) (fun k=>l.length - k) 0 (by omega) ?_ fun k hk=>?_
  ·rw [yar,bD,ej,hst]
   refine ⟨by simp only [zkq,zkv,zle,zlf,ai];omega,by repeat first|exact .refl _|refine .push ?_ _,?_,?_,?_⟩
   ·rw [← hst];exact aj (hcl1 _) (hlc _)
   ·simp [ltF,zle,zlf,znn,znf,hlv]
    omega
   ·simp [aM,wk2,wk1,wkM,Fr.get]
  simp only [go_sem]
  refine ae (fun hc=>?_) (fun hc=>?_)
  ·have hk':k<l.length:=by simp at hc;omega
   obtain ⟨x,hx⟩:∃ x,x=l[k]:=⟨_,rfl⟩
   have hg:=av (f:=c) (l:=l) (k:=k) (x:=x) (by rw [gQq hk',hx])
   have e5:=Yk5 k
   have hxo:=ha x (by rw [hx];exact gMq hk')
   obtain ⟨es',hlk⟩:=eC (g:=g) hk' hx hl
   have hSk:=hW.next (s1.add (bD g (l.take k)))
   obtain ⟨cs,hcc,hcl3,hall⟩:=hag x
   have hsp:∀ zs:List AV,zs.length=sz→splice zs 0 cs=cs:=fun zs hz=>dX (hz.trans hcl3.symm)
   have hts:List.take sz cs=cs:=ybc (by omega)
   rw [hcc] at hg
   clear hag
   subst ew es ec eo eg
   simp only [go_sem,iNq,ybb,hg,hcl3,hts,hall,hsp,if_true,yaz,yba,ai,aP,aZ]
   refine ⟨by omega,?_⟩
   rw [← hcc]
   refine n9 hxo (hSk.push2 _ _) hlk ?_
   rw [hF.p2,es']
   simp only [go_sem,e5]
   refine ⟨k+1,by omega,by omega,by simp only [zkq,zkv,zle,ai];omega,by repeat first|exact .refl _|refine .push ?_ _,aj (hcl1 _) (hlc _),?_,?_⟩
   ·simp [ltF,zle,ai,znn,znf,hlv]
    omega
   ·simp [aM,wk2,wk1,wkM,Fr.get]
  ·have hk':k=l.length:=by simp at hc;omega
   subst hk'
   rw [List.take_length]
   simp only [go_sem]
   refine ⟨?_,by repeat first|exact .refl _|refine .push ?_ _,hcl1 _,?_⟩
   ·simp [wk,wk2,wk1,ak]
   ·simp [zns,znv]
def df:List AV→AHeap→(AV→Prop)→Prop
 |[],_,K=>K (.agg (aP 12 165 170))
 |_,_,_=>False
theorem oQ:EntOk Tryz.prog 69 (Ent.pure df):=by
 refine Ype fun _ H K h=>?_
 unfold df at h
 split at h
 rotate_left
 ·exact h.elim
 refine ⟨_,h,?_⟩
 refine ACalls.fW ag tNq Tryz.func69 [.cell 0 161] (nrq _) (T:=af []) (h:=fun hcl hlt=>?_)
 clear hlt
 simp only [go_sem,aP]
 exact Z8
def zp:=eW (aN) bS jP
def Cv:=kF 231 4 (aN) bS jP
theorem Df:EntOk Tryz.prog 231 (Ent.effect zp):=by
 unfold zp
 refine EntOk.effect fun args H K h=>?_
 unfold eW at h
 split at h
 rotate_left
 ·exact h.elim
 rename_i id x
 obtain ⟨q,s,a,⟨hW,rfl,ha,hl⟩,hK⟩:=h
 refine ⟨_,_,hK,?_⟩
 clear hK
 have hF:=hW.facts
 have hcl0:=hW.closed (t:=s.add (jP a))
 have hid:=glq hW.o
 have hq:=glq hW.bu
 refine ACalls.fW ag (tCq fE (tCq tZ (tCq ww (tCq AX tNq)))) Tryz.func231 [] (by rw [ai];omega) (T:=af [(4,[[],[],[],[],[1,3]])]) (h:=fun hcl hlt=>?_)
 clear hlt
 have hcl1:=hcl0 hcl
 unfold jP at hl hcl1 ⊢
 rw [← am,← am,← am] at hl hcl1 ⊢
 have hl4:=hl
 have hl3:=aE hl4
 have hl2:=aE hl3
 have hl1:=aE hl2
 simp only [go_sem,aN,kK,boL,ai,au]
 refine ek (.inr rfl) (hW.push _) hl1 ?_
 rw [hF.p0]
 simp only [go_sem,aN,kK,boL,ai,au]
 refine ym ((hW.next _).push _) hl2 ?_
 rw [hF.p1]
 simp only [go_sem,aN,kK,boL,ai,au]
 refine ym ((hW.next _).push _) hl3 ?_
 rw [hF.p1]
 simp only [go_sem,aN,kK,boL,ai,au]
 refine fX (c:=.bool) (fun _ _=>trivial) ((hW.next _).push _) hl4 ?_
 rw [hF.p1]
 try simp only [go_sem,aN,kK,boL,ai,au]
 exact Z7
theorem Be:EntOk Tryz.prog 184 (Ent.effect Cv):=ju Bg (fun _ x=>bV x) (fun _=>⟨_,rfl,rfl,rfl⟩) fun wf sz c ok g ew es ec eo eg hone hlt' hag id most r q s l H hW ha hl=>by
 refine ACalls.fW ag (tCq bO (tCq Df tNq)) Tryz.func184 [] (by rw [ai];omega) (T:=af [(2,[[],[],[],[],[],[],[],[],[4,7],[],[],[4,7]])]) (h:=fun hcl hlt=>?_)
 have hF:=hW.facts
 have hcl1:=fun t=>hW.closed (t:=t) hcl
 have hid:=glq hW.o
 have hq:=glq hW.bu
 have hll:=fB hone hl
 obtain ⟨b,sl,sf,sa⟩:=s
 have hne:=aL hid
 have hneq:=aL hq
 have n1:(id=q)=False:=eq_false hW.ne
 have n2:(q=id)=False:=eq_false fun e=>hW.ne e.symm
 have hcs:=ax hW.o
 have hb0:=hW.bu
 have hi0:=hW.o
 have hnn:=hW.ne
 have hlb:b.length≤ce:=aE hl
 rw [aZ] at hlb
 dsimp only at hcs hb0 hi0 hlb
 have lw2:=cn (l.length:Int) 2
 clear hlt
 have hcm:=fun cs=>@al H id cs hid
 have hA:=fun X Y=>@bI H id q X Y hnn hid
 have hB:=fun X=>cE (X:=X) hnn hb0
 have eh:=fun X Y Z=>@cD H id q X Y Z
 have hL2:sl=true→(sl||decide ((l.length:Int) > most))=true:=fun h=>by rw [h,Bool.true_or]
 have hL3:sl=false→decide ((l.length:Int) > most)=(sl||decide ((l.length:Int) > most)):=fun h=>by rw [h,Bool.false_or]
 have hst:=fC (H:=H) (id:=id) (q:=q) (b:=b) (sl:=sl) (sf:=sf) (sa:=sa) (n:=l.length) (most:=most)
 have hS1:=hW.next ((⟨b,sl,sf,sa⟩:Enc).add (ei l.length most))
 have htot:(((⟨b,sl,sf,sa⟩:Enc).add (ei l.length most)).add (bD g l))=(⟨b,sl,sf,sa⟩:Enc).add (bC g most l):=by rw [am];rfl
 rw [← htot] at hl ⊢
 generalize ((⟨b,sl,sf,sa⟩:Enc).add (ei l.length most))=s1 at *
 generalize (sl||decide ((l.length:Int) > most))=L at *
 have hlv:∀ n,(AV.slice .any sz (l.map c)).lt n:=fun n=>aA (hlt' n)
 have hlc:=fun n=>@eH n most wf r
 cases sl
 case' true =>
  rw [hL2 rfl] at hst
  simp only [go_sem,byq,hne,hneq,n1,n2,hcs,hcm,hA,hB,eh,hi0,hb0,aD,ybb]
 case' false =>
  simp only [go_sem,byq,hne,hneq,n1,n2,hcs,hcm,hA,hB,eh,hi0,hb0,aD,ybb,hL3 rfl]
 all_goals
  (repeat with_reducible refine And.intro (by first|assumption|decide|omega|exact ⟨by omega,by omega⟩) ?_)
  refine aq (A:=Nat) (fun k=>[(0,.ptr id 0),(4,.ptr H.nx 0),(33,.slice .any sz (l.map c)),(34,.int .i64 (l.length:Int)),(35,.int .i64 (k:Int))])
   (fun k=>(swH H id q (s1.add (bD g (l.take k)))).push (.cells (aP most wf r))) (fun k=>k≤l.length) (fun k=>l.length - k) 0 (by omega) ?_ fun k hk=>?_
  ·rw [yar,bD,ej,hst]
   refine ⟨by simp only [zkq,zkv,zle,zlf,ai];omega,by repeat first|exact .refl _|refine .push ?_ _,?_,?_,?_⟩
   ·rw [← hst];exact aj (hcl1 _) (hlc _)
   ·simp [ltF,zle,zlf,znn,znf,hlv]
    omega
   ·simp [aM,wk2,wk1,wkM,Fr.get]
  simp only [go_sem]
  refine ae (fun hc=>?_) (fun hc=>?_)
  ·have hk':k<l.length:=by simp at hc;omega
   obtain ⟨x,hx⟩:∃ x,x=l[k]:=⟨_,rfl⟩
   have hg:=av (f:=c) (l:=l) (k:=k) (x:=x) (by rw [gQq hk',hx])
   have e5:=Yk5 k
   have hxo:=ha x (by rw [hx];exact gMq hk')
   obtain ⟨es',hlk⟩:=eC (g:=g) hk' hx hl
   have hSk:=hW.next (s1.add (bD g (l.take k)))
   obtain ⟨cs,hcc,hcl3,hall⟩:=hag x
   have hsp:∀ zs:List AV,zs.length=sz→splice zs 0 cs=cs:=fun zs hz=>dX (hz.trans hcl3.symm)
   have hts:List.take sz cs=cs:=ybc (by omega)
   rw [hcc] at hg
   clear hag
   subst ew es ec eo eg
   simp only [go_sem,iNq,ybb,hg,hcl3,hts,hall,hsp,if_true,yaz,yba,ai,aP,aZ]
   refine ⟨by omega,?_⟩
   rw [← hcc]
   refine n9 hxo (hSk.push2 _ _) hlk ?_
   rw [hF.p2,es']
   simp only [go_sem,e5]
   refine ⟨k+1,by omega,by omega,by simp only [zkq,zkv,zle,ai];omega,by repeat first|exact .refl _|refine .push ?_ _,aj (hcl1 _) (hlc _),?_,?_⟩
   ·simp [ltF,zle,ai,znn,znf,hlv]
    omega
   ·simp [aM,wk2,wk1,wkM,Fr.get]
  ·have hk':k=l.length:=by simp at hc;omega
   subst hk'
   rw [List.take_length]
   simp only [go_sem]
   refine ⟨?_,by repeat first|exact .refl _|refine .push ?_ _,hcl1 _,?_⟩
   ·simp [wk,wk2,wk1,ak]
   ·simp [zns,znv]
def jD:List AV→AHeap→(AV→Prop)→Prop
 |[],_,K=>K (.agg (aP 8 231 234))
 |_,_,_=>False
theorem vI:EntOk Tryz.prog 185 (Ent.pure jD):=by
 refine Ype fun _ H K h=>?_
 unfold jD at h
 split at h
 rotate_left
 ·exact h.elim
 refine ⟨_,h,?_⟩
 refine ACalls.fW ag tNq Tryz.func185 [.cell 0 308] (nrq _) (T:=af []) (h:=fun hcl hlt=>?_)
 clear hlt
 simp only [go_sem,aP]
 exact Z8
theorem AG:ti Tryz.prog 167=some ⟨.struct [(0,3,false),(1,164,false),(2,165,false)],3,24,.agg [.int .i64 0,.nilf,.nilf]⟩:=by kernel_rfl
theorem Dw:ti Tryz.prog 164=some ⟨.func,1,8,.nilf⟩:=by kernel_rfl
theorem Eb:ti Tryz.prog 165=some ⟨.func,1,8,.nilf⟩:=by kernel_rfl
theorem z9:ti Tryz.prog 182=some ⟨.struct [(0,3,false),(1,179,false),(2,180,false)],3,24,.agg [.int .i64 0,.nilf,.nilf]⟩:=by kernel_rfl
theorem B4:ti Tryz.prog 179=some ⟨.func,1,8,.nilf⟩:=by kernel_rfl
theorem BL:ti Tryz.prog 180=some ⟨.func,1,8,.nilf⟩:=by kernel_rfl
attribute [go_sem] AG Dw Eb z9 B4 BL
def yx:=eW (aH) oR io
def Bn:=kF 173 8 (aH) oR io
theorem CA:EntOk Tryz.prog 173 (Ent.effect yx):=by
 unfold yx
 refine EntOk.effect fun args H K h=>?_
 unfold eW at h
 split at h
 rotate_left
 ·exact h.elim
 rename_i id x
 obtain ⟨q,s,a,⟨hW,rfl,ha,hl⟩,hK⟩:=h
 refine ⟨_,_,hK,?_⟩
 clear hK
 have hF:=hW.facts
 have hcl0:=hW.closed (t:=s.add (io a))
 have hid:=glq hW.o
 have hq:=glq hW.bu
 refine ACalls.fW ag (tCq fE (tCq lL (tCq vz (tCq Am (tCq lC (tCq pM (tCq vZ (tCq zX tNq)))))))) Tryz.func173 [] (by rw [ai];omega) (T:=af [(3,[[],[],[],[],[1,3]]),(4,[[],[],[],[],[1,3]]),(6,[[],[],[],[],[1,3]])]) (h:=fun hcl hlt=>?_)
 clear hlt
 have hcl1:=hcl0 hcl
 unfold io at hl hcl1 ⊢
 rw [← am,← am,← am,← am,← am,← am,← am] at hl hcl1 ⊢
 have hl8:=hl
 have hl7:=aE hl8
 have hl6:=aE hl7
 have hl5:=aE hl6
 have hl4:=aE hl5
 have hl3:=aE hl4
 have hl2:=aE hl3
 have hl1:=aE hl2
 simp only [go_sem,aH,cX,iF,iE,inL,ai,au]
 refine ek (.inr rfl) (hW.push _) hl1 ?_
 rw [hF.p0]
 simp only [go_sem,aH,cX,iF,iE,inL,ai,au]
 refine ox (ha.1) ((hW.next _).push _) hl2 ?_
 rw [hF.p1]
 simp only [go_sem,aH,cX,iF,iE,inL,ai,au]
 refine fX (c:=cH) (ha.2.1) ((hW.next _).push _) hl3 ?_
 rw [hF.p1]
 simp only [go_sem,aH,cX,iF,iE,inL,ai,au]
 refine fX (c:=.int .i64) (fun _ _=>trivial) ((hW.next _).push _) hl4 ?_
 rw [hF.p1]
 simp only [go_sem,aH,cX,iF,iE,inL,ai,au]
 refine ek (.inr rfl) ((hW.next _).push _) hl5 ?_
 rw [hF.p1]
 simp only [go_sem,aH,cX,iF,iE,inL,ai,au]
 refine fX (c:=vv) (ha.2.2.1) ((hW.next _).push _) hl6 ?_
 rw [hF.p1]
 simp only [go_sem,aH,cX,iF,iE,inL,ai,au]
 refine ek (.inr rfl) ((hW.next _).push _) hl7 ?_
 rw [hF.p1]
 simp only [go_sem,aH,cX,iF,iE,inL,ai,au]
 refine ox (ha.2.2.2) ((hW.next _).push _) hl8 ?_
 rw [hF.p1]
 try simp only [go_sem,aH,cX,iF,iE,inL,ai,au]
 exact Z7
theorem tJ:EntOk Tryz.prog 70 (Ent.effect Bn):=ju Bb (fun _ x=>f5 x) (fun _=>⟨_,rfl,rfl,rfl⟩) fun wf sz c ok g ew es ec eo eg hone hlt' hag id most r q s l H hW ha hl=>by
 refine ACalls.fW ag (tCq bO (tCq CA tNq)) Tryz.func70 [] (by rw [ai];omega) (T:=af [(2,[[],[],[],[],[],[],[],[],[4,7],[],[],[4,7]])]) (h:=fun hcl hlt=>?_)
 have hF:=hW.facts
 have hcl1:=fun t=>hW.closed (t:=t) hcl
 have hid:=glq hW.o
 have hq:=glq hW.bu
 have hll:=fB hone hl
 obtain ⟨b,sl,sf,sa⟩:=s
 have hne:=aL hid
 have hneq:=aL hq
 have n1:(id=q)=False:=eq_false hW.ne
 have n2:(q=id)=False:=eq_false fun e=>hW.ne e.symm
 have hcs:=ax hW.o
 have hb0:=hW.bu
 have hi0:=hW.o
 have hnn:=hW.ne
 have hlb:b.length≤ce:=aE hl
 rw [aZ] at hlb
 dsimp only at hcs hb0 hi0 hlb
 have lw2:=cn (l.length:Int) 2
 clear hlt
 have hcm:=fun cs=>@al H id cs hid
 have hA:=fun X Y=>@bI H id q X Y hnn hid
 have hB:=fun X=>cE (X:=X) hnn hb0
 have eh:=fun X Y Z=>@cD H id q X Y Z
 have hL2:sl=true→(sl||decide ((l.length:Int) > most))=true:=fun h=>by rw [h,Bool.true_or]
 have hL3:sl=false→decide ((l.length:Int) > most)=(sl||decide ((l.length:Int) > most)):=fun h=>by rw [h,Bool.false_or]
 have hst:=fC (H:=H) (id:=id) (q:=q) (b:=b) (sl:=sl) (sf:=sf) (sa:=sa) (n:=l.length) (most:=most)
 have hS1:=hW.next ((⟨b,sl,sf,sa⟩:Enc).add (ei l.length most))
 have htot:(((⟨b,sl,sf,sa⟩:Enc).add (ei l.length most)).add (bD g l))=(⟨b,sl,sf,sa⟩:Enc).add (bC g most l):=by rw [am];rfl
 rw [← htot] at hl ⊢
 generalize ((⟨b,sl,sf,sa⟩:Enc).add (ei l.length most))=s1 at *
 generalize (sl||decide ((l.length:Int) > most))=L at *
 have hlv:∀ n,(AV.slice .any sz (l.map c)).lt n:=fun n=>aA (hlt' n)
 have hlc:=fun n=>@eH n most wf r
 cases sl
 case' true =>
  rw [hL2 rfl] at hst
  simp only [go_sem,byq,hne,hneq,n1,n2,hcs,hcm,hA,hB,eh,hi0,hb0,aD,ybb]
 case' false =>
  simp only [go_sem,byq,hne,hneq,n1,n2,hcs,hcm,hA,hB,eh,hi0,hb0,aD,ybb,hL3 rfl]
 all_goals
  (repeat with_reducible refine And.intro (by first|assumption|decide|omega|exact ⟨by omega,by omega⟩) ?_)
  refine aq (A:=Nat) (fun k=>[(0,.ptr id 0),(4,.ptr H.nx 0),(33,.slice .any sz (l.map c)),(34,.int .i64 (l.length:Int)),(35,.int .i64 (k:Int))])
   (fun k=>(swH H id q (s1.add (bD g (l.take k)))).push (.cells (aP most wf r))) (fun k=>k≤l.length) (fun k=>l.length - k) 0 (by omega) ?_ fun k hk=>?_
  ·rw [yar,bD,ej,hst]
   refine ⟨by simp only [zkq,zkv,zle,zlf,ai];omega,by repeat first|exact .refl _|refine .push ?_ _,?_,?_,?_⟩
   ·rw [← hst];exact aj (hcl1 _) (hlc _)
   ·simp [ltF,zle,zlf,znn,znf,hlv]
    omega
   ·simp [aM,wk2,wk1,wkM,Fr.get]
  simp only [go_sem]
  refine ae (fun hc=>?_) (fun hc=>?_)
  ·have hk':k<l.length:=by simp at hc;omega
   obtain ⟨x,hx⟩:∃ x,x=l[k]:=⟨_,rfl⟩
   have hg:=av (f:=c) (l:=l) (k:=k) (x:=x) (by rw [gQq hk',hx])
   have e5:=Yk5 k
   have hxo:=ha x (by rw [hx];exact gMq hk')
   obtain ⟨es',hlk⟩:=eC (g:=g) hk' hx hl
   have hSk:=hW.next (s1.add (bD g (l.take k)))
   obtain ⟨cs,hcc,hcl3,hall⟩:=hag x
   have hsp:∀ zs:List AV,zs.length=sz→splice zs 0 cs=cs:=fun zs hz=>dX (hz.trans hcl3.symm)
   have hts:List.take sz cs=cs:=ybc (by omega)
   rw [hcc] at hg
   clear hag
   subst ew es ec eo eg
   simp only [go_sem,iNq,ybb,hg,hcl3,hts,hall,hsp,if_true,yaz,yba,ai,aP,aZ]
   refine ⟨by omega,?_⟩
   rw [← hcc]
   refine n9 hxo (hSk.push2 _ _) hlk ?_
   rw [hF.p2,es']
   simp only [go_sem,e5]
   refine ⟨k+1,by omega,by omega,by simp only [zkq,zkv,zle,ai];omega,by repeat first|exact .refl _|refine .push ?_ _,aj (hcl1 _) (hlc _),?_,?_⟩
   ·simp [ltF,zle,ai,znn,znf,hlv]
    omega
   ·simp [aM,wk2,wk1,wkM,Fr.get]
  ·have hk':k=l.length:=by simp at hc;omega
   subst hk'
   rw [List.take_length]
   simp only [go_sem]
   refine ⟨?_,by repeat first|exact .refl _|refine .push ?_ _,hcl1 _,?_⟩
   ·simp [wk,wk2,wk1,ak]
   ·simp [zns,znv]
def di:List AV→AHeap→(AV→Prop)→Prop
 |[],_,K=>K (.agg (aP 8 173 178))
 |_,_,_=>False
theorem nV:EntOk Tryz.prog 71 (Ent.pure di):=by
 refine Ype fun _ H K h=>?_
 unfold di at h
 split at h
 rotate_left
 ·exact h.elim
 refine ⟨_,h,?_⟩
 refine ACalls.fW ag tNq Tryz.func71 [.cell 0 167] (nrq _) (T:=af []) (h:=fun hcl hlt=>?_)
 clear hlt
 simp only [go_sem,aP]
 exact Z8
def yW:=eW (bH) xG jU
def DU:=kF 183 6 (bH) xG jU
theorem DH:EntOk Tryz.prog 183 (Ent.effect yW):=by
 unfold yW
 refine EntOk.effect fun args H K h=>?_
 unfold eW at h
 split at h
 rotate_left
 ·exact h.elim
 rename_i id x
 obtain ⟨q,s,a,⟨hW,rfl,ha,hl⟩,hK⟩:=h
 refine ⟨_,_,hK,?_⟩
 clear hK
 have hF:=hW.facts
 have hcl0:=hW.closed (t:=s.add (jU a))
 have hid:=glq hW.o
 have hq:=glq hW.bu
 refine ACalls.fW ag (tCq fE (tCq lL (tCq vI (tCq Be (tCq lC (tCq pM (tCq tZ tNq))))))) Tryz.func183 [] (by rw [ai];omega) (T:=af [(3,[[],[],[],[],[1,3]]),(4,[[],[],[],[],[1,3]])]) (h:=fun hcl hlt=>?_)
 clear hlt
 have hcl1:=hcl0 hcl
 unfold jU at hl hcl1 ⊢
 rw [← am,← am,← am,← am,← am] at hl hcl1 ⊢
 have hl6:=hl
 have hl5:=aE hl6
 have hl4:=aE hl5
 have hl3:=aE hl4
 have hl2:=aE hl3
 have hl1:=aE hl2
 simp only [go_sem,bH,jD,cX,inL,ai,au]
 refine ek (.inr rfl) (hW.push _) hl1 ?_
 rw [hF.p0]
 simp only [go_sem,bH,jD,cX,inL,ai,au]
 refine ox (ha) ((hW.next _).push _) hl2 ?_
 rw [hF.p1]
 simp only [go_sem,bH,jD,cX,inL,ai,au]
 refine fX (c:=aN) (fun _ _=>trivial) ((hW.next _).push _) hl3 ?_
 rw [hF.p1]
 simp only [go_sem,bH,jD,cX,inL,ai,au]
 refine fX (c:=.int .i64) (fun _ _=>trivial) ((hW.next _).push _) hl4 ?_
 rw [hF.p1]
 simp only [go_sem,bH,jD,cX,inL,ai,au]
 refine ek (.inr rfl) ((hW.next _).push _) hl5 ?_
 rw [hF.p1]
 simp only [go_sem,bH,jD,cX,inL,ai,au]
 refine ym ((hW.next _).push _) hl6 ?_
 rw [hF.p1]
 try simp only [go_sem,bH,jD,cX,inL,ai,au]
 exact Z7
theorem tG:EntOk Tryz.prog 74 (Ent.effect DU):=ju C7 (fun _ x=>ck x) (fun _=>⟨_,rfl,rfl,rfl⟩) fun wf sz c ok g ew es ec eo eg hone hlt' hag id most r q s l H hW ha hl=>by
 refine ACalls.fW ag (tCq bO (tCq DH tNq)) Tryz.func74 [] (by rw [ai];omega) (T:=af [(2,[[],[],[],[],[],[],[],[],[4,7],[],[],[4,7]])]) (h:=fun hcl hlt=>?_)
 have hF:=hW.facts
 have hcl1:=fun t=>hW.closed (t:=t) hcl
 have hid:=glq hW.o
 have hq:=glq hW.bu
 have hll:=fB hone hl
 obtain ⟨b,sl,sf,sa⟩:=s
 have hne:=aL hid
 have hneq:=aL hq
 have n1:(id=q)=False:=eq_false hW.ne
 have n2:(q=id)=False:=eq_false fun e=>hW.ne e.symm
 have hcs:=ax hW.o
 have hb0:=hW.bu
 have hi0:=hW.o
 have hnn:=hW.ne
 have hlb:b.length≤ce:=aE hl
 rw [aZ] at hlb
 dsimp only at hcs hb0 hi0 hlb
 have lw2:=cn (l.length:Int) 2
 clear hlt
 have hcm:=fun cs=>@al H id cs hid
 have hA:=fun X Y=>@bI H id q X Y hnn hid
 have hB:=fun X=>cE (X:=X) hnn hb0
 have eh:=fun X Y Z=>@cD H id q X Y Z
 have hL2:sl=true→(sl||decide ((l.length:Int) > most))=true:=fun h=>by rw [h,Bool.true_or]
 have hL3:sl=false→decide ((l.length:Int) > most)=(sl||decide ((l.length:Int) > most)):=fun h=>by rw [h,Bool.false_or]
 have hst:=fC (H:=H) (id:=id) (q:=q) (b:=b) (sl:=sl) (sf:=sf) (sa:=sa) (n:=l.length) (most:=most)
 have hS1:=hW.next ((⟨b,sl,sf,sa⟩:Enc).add (ei l.length most))
 have htot:(((⟨b,sl,sf,sa⟩:Enc).add (ei l.length most)).add (bD g l))=(⟨b,sl,sf,sa⟩:Enc).add (bC g most l):=by rw [am];rfl
 rw [← htot] at hl ⊢
 generalize ((⟨b,sl,sf,sa⟩:Enc).add (ei l.length most))=s1 at *
 generalize (sl||decide ((l.length:Int) > most))=L at *
 have hlv:∀ n,(AV.slice .any sz (l.map c)).lt n:=fun n=>aA (hlt' n)
 have hlc:=fun n=>@eH n most wf r
 cases sl
 case' true =>
  rw [hL2 rfl] at hst
  simp only [go_sem,byq,hne,hneq,n1,n2,hcs,hcm,hA,hB,eh,hi0,hb0,aD,ybb]
 case' false =>
  simp only [go_sem,byq,hne,hneq,n1,n2,hcs,hcm,hA,hB,eh,hi0,hb0,aD,ybb,hL3 rfl]
 all_goals
  (repeat with_reducible refine And.intro (by first|assumption|decide|omega|exact ⟨by omega,by omega⟩) ?_)
  refine aq (A:=Nat) (fun k=>[(0,.ptr id 0),(4,.ptr H.nx 0),(33,.slice .any sz (l.map c)),(34,.int .i64 (l.length:Int)),(35,.int .i64 (k:Int))])
   (fun k=>(swH H id q (s1.add (bD g (l.take k)))).push (.cells (aP most wf r))) (fun k=>k≤l.length) (fun k=>l.length - k) 0 (by omega) ?_ fun k hk=>?_
  ·rw [yar,bD,ej,hst]
   refine ⟨by simp only [zkq,zkv,zle,zlf,ai];omega,by repeat first|exact .refl _|refine .push ?_ _,?_,?_,?_⟩
   ·rw [← hst];exact aj (hcl1 _) (hlc _)
   ·simp [ltF,zle,zlf,znn,znf,hlv]
    omega
   ·simp [aM,wk2,wk1,wkM,Fr.get]
  simp only [go_sem]
  refine ae (fun hc=>?_) (fun hc=>?_)
  ·have hk':k<l.length:=by simp at hc;omega
   obtain ⟨x,hx⟩:∃ x,x=l[k]:=⟨_,rfl⟩
   have hg:=av (f:=c) (l:=l) (k:=k) (x:=x) (by rw [gQq hk',hx])
   have e5:=Yk5 k
   have hxo:=ha x (by rw [hx];exact gMq hk')
   obtain ⟨es',hlk⟩:=eC (g:=g) hk' hx hl
   have hSk:=hW.next (s1.add (bD g (l.take k)))
   obtain ⟨cs,hcc,hcl3,hall⟩:=hag x
   have hsp:∀ zs:List AV,zs.length=sz→splice zs 0 cs=cs:=fun zs hz=>dX (hz.trans hcl3.symm)
   have hts:List.take sz cs=cs:=ybc (by omega)
   rw [hcc] at hg
   clear hag
   subst ew es ec eo eg
   simp only [go_sem,iNq,ybb,hg,hcl3,hts,hall,hsp,if_true,yaz,yba,ai,aP,aZ]
   refine ⟨by omega,?_⟩
   rw [← hcc]
   refine n9 hxo (hSk.push2 _ _) hlk ?_
   rw [hF.p2,es']
   simp only [go_sem,e5]
   refine ⟨k+1,by omega,by omega,by simp only [zkq,zkv,zle,ai];omega,by repeat first|exact .refl _|refine .push ?_ _,aj (hcl1 _) (hlc _),?_,?_⟩
   ·simp [ltF,zle,ai,znn,znf,hlv]
    omega
   ·simp [aM,wk2,wk1,wkM,Fr.get]
  ·have hk':k=l.length:=by simp at hc;omega
   subst hk'
   rw [List.take_length]
   simp only [go_sem]
   refine ⟨?_,by repeat first|exact .refl _|refine .push ?_ _,hcl1 _,?_⟩
   ·simp [wk,wk2,wk1,ak]
   ·simp [zns,znv]
def dj:List AV→AHeap→(AV→Prop)→Prop
 |[],_,K=>K (.agg (aP 6 183 187))
 |_,_,_=>False
theorem ov:EntOk Tryz.prog 75 (Ent.pure dj):=by
 refine Ype fun _ H K h=>?_
 unfold dj at h
 split at h
 rotate_left
 ·exact h.elim
 refine ⟨_,h,?_⟩
 refine ACalls.fW ag tNq Tryz.func75 [.cell 0 182] (nrq _) (T:=af []) (h:=fun hcl hlt=>?_)
 clear hlt
 simp only [go_sem,aP]
 exact Z8
end Go.AL
