/- Lemmas of the proof; no condition. -/
import Derived.Test.YthhmookokgiemaaGreatW03e
set_option linter.all false
set_option maxRecDepth 10000
set_option maxHeartbeats 32000000
open List renaming length_cons → yaz, length_nil → yba, take_of_length_le → ybc, drop_append → ybd, take_append → ybe, drop_eq_nil_of_le → ybf, length_map → ybb, take_zero → yar
open Go Go.AL Go.Proofs
namespace Go.AL
theorem CQ:ti Tryz.prog 147=some ⟨.struct [(0,3,false),(1,144,false),(2,145,false)],3,24,.agg [.int .i64 0,.nilf,.nilf]⟩:=by kernel_rfl
theorem Hl:ti Tryz.prog 144=some ⟨.func,1,8,.nilf⟩:=by kernel_rfl
theorem C8:ti Tryz.prog 145=some ⟨.func,1,8,.nilf⟩:=by kernel_rfl
theorem B6:ti Tryz.prog 153=some ⟨.struct [(0,3,false),(1,150,false),(2,151,false)],3,24,.agg [.int .i64 0,.nilf,.nilf]⟩:=by kernel_rfl
theorem DU:ti Tryz.prog 150=some ⟨.func,1,8,.nilf⟩:=by kernel_rfl
theorem D1:ti Tryz.prog 151=some ⟨.func,1,8,.nilf⟩:=by kernel_rfl
theorem CU:ti Tryz.prog 159=some ⟨.struct [(0,3,false),(1,156,false),(2,157,false)],3,24,.agg [.int .i64 0,.nilf,.nilf]⟩:=by kernel_rfl
theorem Gc:ti Tryz.prog 156=some ⟨.func,1,8,.nilf⟩:=by kernel_rfl
theorem Ff:ti Tryz.prog 157=some ⟨.func,1,8,.nilf⟩:=by kernel_rfl
theorem Cx:ti Tryz.prog 301=some ⟨.struct [(0,3,false),(1,298,false),(2,299,false)],3,24,.agg [.int .i64 0,.nilf,.nilf]⟩:=by kernel_rfl
theorem DJ:ti Tryz.prog 298=some ⟨.func,1,8,.nilf⟩:=by kernel_rfl
theorem EQ:ti Tryz.prog 299=some ⟨.func,1,8,.nilf⟩:=by kernel_rfl
attribute [go_sem] CQ Hl C8 B6 DU D1 CU Gc Ff Cx DJ EQ
def Ax:=eW (az) qG fH
def vS:=gm 213 3 (az) qG fH
theorem Fm:EntOk Tryz.prog 213 (Ent.effect Ax):=by
 unfold Ax
 refine EntOk.effect fun args H K h=>?_
 unfold eW at h
 split at h
 rotate_left
 ·exact h.elim
 rename_i id x
 obtain ⟨q,s,a,⟨hW,rfl,ha,hl⟩,hK⟩:=h
 refine ⟨_,_,hK,?_⟩
 clear hK
 have hF:=hW.facts
 have hcl0:=hW.closed (t:=s.add (fH a))
 have hid:=glq hW.o
 have hq:=glq hW.bu
 refine ACalls.fW ak (tCq fJ (tCq kL (tCq qF (tCq oB tNq)))) Tryz.func213 [] (by rw [ax];omega) (T:=ag [(3,[[],[],[],[],[1,3]])]) (h:=fun hcl hlt=>?_)
 clear hlt
 have hcl1:=hcl0 hcl
 unfold fH at hl hcl1 ⊢
 rw [← aP,← aP] at hl hcl1 ⊢
 have hl3:=hl
 have hl2:=bc hl3
 have hl1:=bc hl2
 simp only [go_sem,az,dD,inL,ax,aF]
 refine ep (.inr rfl) (hW.push _) hl1 ?_
 rw [hF.p0]
 simp only [go_sem,az,dD,inL,ax,aF]
 refine nK (ha) ((hW.next _).push _) hl2 ?_
 rw [hF.p1]
 simp only [go_sem,az,dD,inL,ax,aF]
 refine iA (c:=.int .i64) (fun _ _=>trivial) ((hW.next _).push _) hl3 ?_
 rw [hF.p1]
 try simp only [go_sem,az,dD,inL,ax,aF]
 exact Z15
theorem CH:EntOk Tryz.prog 83 (Ent.effect vS):=by
 unfold vS
 refine EntOk.effect fun args H K h=>?_
 unfold gm at h
 split at h
 rotate_left
 ·exact h.elim
 rename_i id most f' r sz' xs
 obtain ⟨q,s,l,⟨hW,rfl,rfl,rfl,ha,hl⟩,hK⟩:=h
 refine ⟨_,_,hK,?_⟩
 clear hK
 have hF:=hW.facts
 have hcl0:=fun t=>hW.closed (t:=t)
 have hid:=glq hW.o
 have hq:=glq hW.bu
 have hll:=fj zd hl
 obtain ⟨b,sl,sf,sa⟩:=s
 have hne:=cm hid
 have hneq:=cm hq
 have n1:(id=q)=False:=eq_false hW.ne
 have n2:(q=id)=False:=eq_false fun e=>hW.ne e.symm
 have hcs:=au hW.o
 have hb0:=hW.bu
 have hi0:=hW.o
 have hnn:=hW.ne
 have hlb:b.length≤cz:=bc hl
 rw [bo] at hlb
 dsimp only at hcs hb0 hi0 hlb
 have lw2:=cS (l.length:Int) 2
 refine ACalls.fW ak (tCq bP (tCq Fm tNq)) Tryz.func83 [] (by rw [ax];omega) (T:=ag [(2,[[],[],[],[],[],[],[],[],[4,7],[],[],[4,7]])]) (h:=fun hcl hlt=>?_)
 clear hlt
 have hcl1:=fun t=>hcl0 t hcl
 have hcm:=fun cs=>@bw H id cs hid
 have hA:=fun X Y=>@bM H id q X Y hnn hid
 have hB:=fun X=>cB (X:=X) hnn hb0
 have eh:=fun X Y Z=>@cC H id q X Y Z
 have hL2:sl=true→(sl||decide ((l.length:Int) > most))=true:=fun h=>by rw [h,Bool.true_or]
 have hL3:sl=false→decide ((l.length:Int) > most)=(sl||decide ((l.length:Int) > most)):=fun h=>by rw [h,Bool.false_or]
 have hst:=fm (H:=H) (id:=id) (q:=q) (b:=b) (sl:=sl) (sf:=sf) (sa:=sa) (n:=l.length) (most:=most)
 have hS1:=hW.next ((⟨b,sl,sf,sa⟩:Enc).add (ea l.length most))
 have htot:(((⟨b,sl,sf,sa⟩:Enc).add (ea l.length most)).add (bZ fH l))=(⟨b,sl,sf,sa⟩:Enc).add (b5 fH most l):=by rw [aP];rfl
 rw [← htot] at hl ⊢
 generalize ((⟨b,sl,sf,sa⟩:Enc).add (ea l.length most))=s1 at *
 generalize (sl||decide ((l.length:Int) > most))=L at *
 have hlv:∀ n,(AV.slice .any 3 (l.map (az))).lt n:=fun n=>aL (fun x=>wy x)
 have hlc:=fun n=>@eu n most 213 r
 cases sl
 case' true =>
  rw [hL2 rfl] at hst
  simp only [go_sem,byq,hne,hneq,n1,n2,hcs,hcm,hA,hB,eh,hi0,hb0,aY,ybb]
 case' false =>
  simp only [go_sem,byq,hne,hneq,n1,n2,hcs,hcm,hA,hB,eh,hi0,hb0,aY,ybb,hL3 rfl]
 all_goals
  (repeat with_reducible refine And.intro (by first|assumption|decide|omega|exact ⟨by omega,by omega⟩) ?_)
  refine ay (A:=Nat) (fun k=>[(0,.ptr id 0),(4,.ptr H.nx 0),(33,.slice .any 3 (l.map (az))),(34,.int .i64 (l.length:Int)),(35,.int .i64 (k:Int))])
   (fun k=>(swH H id q (s1.add (bZ fH (l.take k)))).push (.cells (bp most 213 r))) (fun k=>k≤l.length) (fun k=>l.length - k) 0 (by omega) ?_ fun k hk=>?_
  ·rw [yar,bZ,dY,hst]
   refine ⟨by simp only [zkq,zkv,zle,zlf,ax];omega,by repeat first|exact .refl _|refine .push ?_ _,?_,?_,?_⟩
   ·rw [← hst];exact ae (hcl1 _) (hlc _)
   ·simp [ltF,zle,zlf,znn,znf,hlv]
    omega
   ·simp [aS,wk2,wk1,wkM,Fr.get]
  simp only [go_sem]
  refine ah (fun hc=>?_) (fun hc=>?_)
  ·have hk':k<l.length:=by simp at hc;omega
   obtain ⟨x,hx⟩:∃ x,x=l[k]:=⟨_,rfl⟩
   have hg:=dx (f:=az) (l:=l) (k:=k) (x:=x) (by rw [gQq hk',hx])
   have e5:=Yk5 k
   have hxo:=ha x (by rw [hx];exact gMq hk')
   obtain ⟨es,hlk⟩:=ex (g:=fH) hk' hx hl
   have hSk:=hW.next (s1.add (bZ fH (l.take k)))
   simp only [go_sem,iNq,ybb,hg,ax,az,bp,bo]
   refine ⟨by omega,?_⟩
   refine nP (c:=az) hxo (hSk.push2 _ _) hlk ?_
   rw [hF.p2,es]
   simp only [go_sem,e5]
   refine ⟨k+1,by omega,by omega,by simp only [zkq,zkv,zle,ax];omega,by repeat first|exact .refl _|refine .push ?_ _,ae (hcl1 _) (hlc _),?_,?_⟩
   ·simp [ltF,zle,ax,znn,znf,hlv]
    omega
   ·simp [aS,wk2,wk1,wkM,Fr.get]
  ·have hk':k=l.length:=by simp at hc;omega
   subst hk'
   rw [List.take_length]
   simp only [go_sem]
   refine ⟨?_,by repeat first|exact .refl _|refine .push ?_ _,hcl1 _,?_⟩
   ·simp [wk,wk2,wk1,af]
   ·simp [zns,znv]
def gL:List AV→AHeap→(AV→Prop)→Prop
 |[],_,K=>K (.agg (bp 8 213 216))
 |_,_,_=>False
theorem Fk:EntOk Tryz.prog 84 (Ent.pure gL):=by
 refine Ype fun _ H K h=>?_
 unfold gL at h
 split at h
 rotate_left
 ·exact h.elim
 refine ⟨_,h,?_⟩
 refine ACalls.fW ak tNq Tryz.func84 [.cell 0 147] (nrq _) (T:=ag []) (h:=fun hcl hlt=>?_)
 clear hlt
 simp only [go_sem,bp]
 exact Z16
def AJ:=eW (aH) mt gO
def v7:=gm 218 5 (aH) mt gO
theorem DL:EntOk Tryz.prog 218 (Ent.effect AJ):=by
 unfold AJ
 refine EntOk.effect fun args H K h=>?_
 unfold eW at h
 split at h
 rotate_left
 ·exact h.elim
 rename_i id x
 obtain ⟨q,s,a,⟨hW,rfl,ha,hl⟩,hK⟩:=h
 refine ⟨_,_,hK,?_⟩
 clear hK
 have hF:=hW.facts
 have hcl0:=hW.closed (t:=s.add (gO a))
 have hid:=glq hW.o
 have hq:=glq hW.bu
 refine ACalls.fW ak (tCq fJ (tCq FA (tCq B5 tNq))) Tryz.func218 [] (by rw [ax];omega) (T:=ag [(4,[[],[],[],[],[1,3]])]) (h:=fun hcl hlt=>?_)
 clear hlt
 have hcl1:=hcl0 hcl
 unfold gO at hl hcl1 ⊢
 rw [← aP,← aP,← aP,← aP] at hl hcl1 ⊢
 have hl5:=hl
 have hl4:=bc hl5
 have hl3:=bc hl4
 have hl2:=bc hl3
 have hl1:=bc hl2
 simp only [go_sem,aH,jX,ax,aF]
 refine ep (.inr rfl) (hW.push _) hl1 ?_
 rw [hF.p0]
 simp only [go_sem,aH,jX,ax,aF]
 refine ep (.inr rfl) ((hW.next _).push _) hl2 ?_
 rw [hF.p1]
 simp only [go_sem,aH,jX,ax,aF]
 refine ep (.inr rfl) ((hW.next _).push _) hl3 ?_
 rw [hF.p1]
 simp only [go_sem,aH,jX,ax,aF]
 refine iA (c:=bH) (ha) ((hW.next _).push _) hl4 ?_
 rw [hF.p1]
 simp only [go_sem,aH,jX,ax,aF]
 refine ep (.inr rfl) ((hW.next _).push _) hl5 ?_
 rw [hF.p1]
 try simp only [go_sem,aH,jX,ax,aF]
 exact Z15
theorem Bu:EntOk Tryz.prog 85 (Ent.effect v7):=by
 unfold v7
 refine EntOk.effect fun args H K h=>?_
 unfold gm at h
 split at h
 rotate_left
 ·exact h.elim
 rename_i id most f' r sz' xs
 obtain ⟨q,s,l,⟨hW,rfl,rfl,rfl,ha,hl⟩,hK⟩:=h
 refine ⟨_,_,hK,?_⟩
 clear hK
 have hF:=hW.facts
 have hcl0:=fun t=>hW.closed (t:=t)
 have hid:=glq hW.o
 have hq:=glq hW.bu
 have hll:=fj Bt hl
 obtain ⟨b,sl,sf,sa⟩:=s
 have hne:=cm hid
 have hneq:=cm hq
 have n1:(id=q)=False:=eq_false hW.ne
 have n2:(q=id)=False:=eq_false fun e=>hW.ne e.symm
 have hcs:=au hW.o
 have hb0:=hW.bu
 have hi0:=hW.o
 have hnn:=hW.ne
 have hlb:b.length≤cz:=bc hl
 rw [bo] at hlb
 dsimp only at hcs hb0 hi0 hlb
 have lw2:=cS (l.length:Int) 2
 refine ACalls.fW ak (tCq bP (tCq DL tNq)) Tryz.func85 [] (by rw [ax];omega) (T:=ag [(2,[[],[],[],[],[],[],[],[],[4,7],[],[],[4,7]])]) (h:=fun hcl hlt=>?_)
 clear hlt
 have hcl1:=fun t=>hcl0 t hcl
 have hcm:=fun cs=>@bw H id cs hid
 have hA:=fun X Y=>@bM H id q X Y hnn hid
 have hB:=fun X=>cB (X:=X) hnn hb0
 have eh:=fun X Y Z=>@cC H id q X Y Z
 have hL2:sl=true→(sl||decide ((l.length:Int) > most))=true:=fun h=>by rw [h,Bool.true_or]
 have hL3:sl=false→decide ((l.length:Int) > most)=(sl||decide ((l.length:Int) > most)):=fun h=>by rw [h,Bool.false_or]
 have hst:=fm (H:=H) (id:=id) (q:=q) (b:=b) (sl:=sl) (sf:=sf) (sa:=sa) (n:=l.length) (most:=most)
 have hS1:=hW.next ((⟨b,sl,sf,sa⟩:Enc).add (ea l.length most))
 have htot:(((⟨b,sl,sf,sa⟩:Enc).add (ea l.length most)).add (bZ gO l))=(⟨b,sl,sf,sa⟩:Enc).add (b5 gO most l):=by rw [aP];rfl
 rw [← htot] at hl ⊢
 generalize ((⟨b,sl,sf,sa⟩:Enc).add (ea l.length most))=s1 at *
 generalize (sl||decide ((l.length:Int) > most))=L at *
 have hlv:∀ n,(AV.slice .any 5 (l.map (aH))).lt n:=fun n=>aL (fun x=>yb x)
 have hlc:=fun n=>@eu n most 218 r
 cases sl
 case' true =>
  rw [hL2 rfl] at hst
  simp only [go_sem,byq,hne,hneq,n1,n2,hcs,hcm,hA,hB,eh,hi0,hb0,aY,ybb]
 case' false =>
  simp only [go_sem,byq,hne,hneq,n1,n2,hcs,hcm,hA,hB,eh,hi0,hb0,aY,ybb,hL3 rfl]
 all_goals
  (repeat with_reducible refine And.intro (by first|assumption|decide|omega|exact ⟨by omega,by omega⟩) ?_)
  refine ay (A:=Nat) (fun k=>[(0,.ptr id 0),(4,.ptr H.nx 0),(33,.slice .any 5 (l.map (aH))),(34,.int .i64 (l.length:Int)),(35,.int .i64 (k:Int))])
   (fun k=>(swH H id q (s1.add (bZ gO (l.take k)))).push (.cells (bp most 218 r))) (fun k=>k≤l.length) (fun k=>l.length - k) 0 (by omega) ?_ fun k hk=>?_
  ·rw [yar,bZ,dY,hst]
   refine ⟨by simp only [zkq,zkv,zle,zlf,ax];omega,by repeat first|exact .refl _|refine .push ?_ _,?_,?_,?_⟩
   ·rw [← hst];exact ae (hcl1 _) (hlc _)
   ·simp [ltF,zle,zlf,znn,znf,hlv]
    omega
   ·simp [aS,wk2,wk1,wkM,Fr.get]
  simp only [go_sem]
  refine ah (fun hc=>?_) (fun hc=>?_)
  ·have hk':k<l.length:=by simp at hc;omega
   obtain ⟨x,hx⟩:∃ x,x=l[k]:=⟨_,rfl⟩
   have hg:=dx (f:=aH) (l:=l) (k:=k) (x:=x) (by rw [gQq hk',hx])
   have e5:=Yk5 k
   have hxo:=ha x (by rw [hx];exact gMq hk')
   obtain ⟨es,hlk⟩:=ex (g:=gO) hk' hx hl
   have hSk:=hW.next (s1.add (bZ gO (l.take k)))
   simp only [go_sem,iNq,ybb,hg,ax,aH,bp,bo]
   refine ⟨by omega,?_⟩
   refine nP (c:=aH) hxo (hSk.push2 _ _) hlk ?_
   rw [hF.p2,es]
   simp only [go_sem,e5]
   refine ⟨k+1,by omega,by omega,by simp only [zkq,zkv,zle,ax];omega,by repeat first|exact .refl _|refine .push ?_ _,ae (hcl1 _) (hlc _),?_,?_⟩
   ·simp [ltF,zle,ax,znn,znf,hlv]
    omega
   ·simp [aS,wk2,wk1,wkM,Fr.get]
  ·have hk':k=l.length:=by simp at hc;omega
   subst hk'
   rw [List.take_length]
   simp only [go_sem]
   refine ⟨?_,by repeat first|exact .refl _|refine .push ?_ _,hcl1 _,?_⟩
   ·simp [wk,wk2,wk1,af]
   ·simp [zns,znv]
def gH:List AV→AHeap→(AV→Prop)→Prop
 |[],_,K=>K (.agg (bp 12 218 221))
 |_,_,_=>False
theorem DH:EntOk Tryz.prog 86 (Ent.pure gH):=by
 refine Ype fun _ H K h=>?_
 unfold gH at h
 split at h
 rotate_left
 ·exact h.elim
 refine ⟨_,h,?_⟩
 refine ACalls.fW ak tNq Tryz.func86 [.cell 0 153] (nrq _) (T:=ag []) (h:=fun hcl hlt=>?_)
 clear hlt
 simp only [go_sem,bp]
 exact Z16
def Av:=eW (ap) l5 fI
def wG:=gm 223 5 (ap) l5 fI
theorem CY:EntOk Tryz.prog 223 (Ent.effect Av):=by
 unfold Av
 refine EntOk.effect fun args H K h=>?_
 unfold eW at h
 split at h
 rotate_left
 ·exact h.elim
 rename_i id x
 obtain ⟨q,s,a,⟨hW,rfl,ha,hl⟩,hK⟩:=h
 refine ⟨_,_,hK,?_⟩
 clear hK
 have hF:=hW.facts
 have hcl0:=hW.closed (t:=s.add (fI a))
 have hid:=glq hW.o
 have hq:=glq hW.bu
 refine ACalls.fW ak (tCq fJ (tCq kL (tCq Dq (tCq BS (tCq FM (tCq BE tNq)))))) Tryz.func223 [] (by rw [ax];omega) (T:=ag [(3,[[],[],[],[],[1,3]]),(4,[[],[],[],[],[1,3]])]) (h:=fun hcl hlt=>?_)
 clear hlt
 have hcl1:=hcl0 hcl
 unfold fI at hl hcl1 ⊢
 rw [← aP,← aP,← aP,← aP] at hl hcl1 ⊢
 have hl5:=hl
 have hl4:=bc hl5
 have hl3:=bc hl4
 have hl2:=bc hl3
 have hl1:=bc hl2
 simp only [go_sem,ap,jO,jM,ax,aF]
 refine ep (.inr rfl) (hW.push _) hl1 ?_
 rw [hF.p0]
 simp only [go_sem,ap,jO,jM,ax,aF]
 refine nK (ha.1) ((hW.next _).push _) hl2 ?_
 rw [hF.p1]
 simp only [go_sem,ap,jO,jM,ax,aF]
 refine iA (c:=bb) (ha.2.1) ((hW.next _).push _) hl3 ?_
 rw [hF.p1]
 simp only [go_sem,ap,jO,jM,ax,aF]
 refine iA (c:=bv) (ha.2.2.1) ((hW.next _).push _) hl4 ?_
 rw [hF.p1]
 simp only [go_sem,ap,jO,jM,ax,aF]
 refine nK (ha.2.2.2) ((hW.next _).push _) hl5 ?_
 rw [hF.p1]
 try simp only [go_sem,ap,jO,jM,ax,aF]
 exact Z15
theorem CJ:EntOk Tryz.prog 87 (Ent.effect wG):=by
 unfold wG
 refine EntOk.effect fun args H K h=>?_
 unfold gm at h
 split at h
 rotate_left
 ·exact h.elim
 rename_i id most f' r sz' xs
 obtain ⟨q,s,l,⟨hW,rfl,rfl,rfl,ha,hl⟩,hK⟩:=h
 refine ⟨_,_,hK,?_⟩
 clear hK
 have hF:=hW.facts
 have hcl0:=fun t=>hW.closed (t:=t)
 have hid:=glq hW.o
 have hq:=glq hW.bu
 have hll:=fj zv hl
 obtain ⟨b,sl,sf,sa⟩:=s
 have hne:=cm hid
 have hneq:=cm hq
 have n1:(id=q)=False:=eq_false hW.ne
 have n2:(q=id)=False:=eq_false fun e=>hW.ne e.symm
 have hcs:=au hW.o
 have hb0:=hW.bu
 have hi0:=hW.o
 have hnn:=hW.ne
 have hlb:b.length≤cz:=bc hl
 rw [bo] at hlb
 dsimp only at hcs hb0 hi0 hlb
 have lw2:=cS (l.length:Int) 2
 refine ACalls.fW ak (tCq bP (tCq CY tNq)) Tryz.func87 [] (by rw [ax];omega) (T:=ag [(2,[[],[],[],[],[],[],[],[],[4,7],[],[],[4,7]])]) (h:=fun hcl hlt=>?_)
 clear hlt
 have hcl1:=fun t=>hcl0 t hcl
 have hcm:=fun cs=>@bw H id cs hid
 have hA:=fun X Y=>@bM H id q X Y hnn hid
 have hB:=fun X=>cB (X:=X) hnn hb0
 have eh:=fun X Y Z=>@cC H id q X Y Z
 have hL2:sl=true→(sl||decide ((l.length:Int) > most))=true:=fun h=>by rw [h,Bool.true_or]
 have hL3:sl=false→decide ((l.length:Int) > most)=(sl||decide ((l.length:Int) > most)):=fun h=>by rw [h,Bool.false_or]
 have hst:=fm (H:=H) (id:=id) (q:=q) (b:=b) (sl:=sl) (sf:=sf) (sa:=sa) (n:=l.length) (most:=most)
 have hS1:=hW.next ((⟨b,sl,sf,sa⟩:Enc).add (ea l.length most))
 have htot:(((⟨b,sl,sf,sa⟩:Enc).add (ea l.length most)).add (bZ fI l))=(⟨b,sl,sf,sa⟩:Enc).add (b5 fI most l):=by rw [aP];rfl
 rw [← htot] at hl ⊢
 generalize ((⟨b,sl,sf,sa⟩:Enc).add (ea l.length most))=s1 at *
 generalize (sl||decide ((l.length:Int) > most))=L at *
 have hlv:∀ n,(AV.slice .any 5 (l.map (ap))).lt n:=fun n=>aL (fun x=>xD x)
 have hlc:=fun n=>@eu n most 223 r
 cases sl
 case' true =>
  rw [hL2 rfl] at hst
  simp only [go_sem,byq,hne,hneq,n1,n2,hcs,hcm,hA,hB,eh,hi0,hb0,aY,ybb]
 case' false =>
  simp only [go_sem,byq,hne,hneq,n1,n2,hcs,hcm,hA,hB,eh,hi0,hb0,aY,ybb,hL3 rfl]
 all_goals
  (repeat with_reducible refine And.intro (by first|assumption|decide|omega|exact ⟨by omega,by omega⟩) ?_)
  refine ay (A:=Nat) (fun k=>[(0,.ptr id 0),(4,.ptr H.nx 0),(33,.slice .any 5 (l.map (ap))),(34,.int .i64 (l.length:Int)),(35,.int .i64 (k:Int))])
   (fun k=>(swH H id q (s1.add (bZ fI (l.take k)))).push (.cells (bp most 223 r))) (fun k=>k≤l.length) (fun k=>l.length - k) 0 (by omega) ?_ fun k hk=>?_
  ·rw [yar,bZ,dY,hst]
   refine ⟨by simp only [zkq,zkv,zle,zlf,ax];omega,by repeat first|exact .refl _|refine .push ?_ _,?_,?_,?_⟩
   ·rw [← hst];exact ae (hcl1 _) (hlc _)
   ·simp [ltF,zle,zlf,znn,znf,hlv]
    omega
   ·simp [aS,wk2,wk1,wkM,Fr.get]
  simp only [go_sem]
  refine ah (fun hc=>?_) (fun hc=>?_)
  ·have hk':k<l.length:=by simp at hc;omega
   obtain ⟨x,hx⟩:∃ x,x=l[k]:=⟨_,rfl⟩
   have hg:=dx (f:=ap) (l:=l) (k:=k) (x:=x) (by rw [gQq hk',hx])
   have e5:=Yk5 k
   have hxo:=ha x (by rw [hx];exact gMq hk')
   obtain ⟨es,hlk⟩:=ex (g:=fI) hk' hx hl
   have hSk:=hW.next (s1.add (bZ fI (l.take k)))
   simp only [go_sem,iNq,ybb,hg,ax,ap,bp,bo]
   refine ⟨by omega,?_⟩
   refine nP (c:=ap) hxo (hSk.push2 _ _) hlk ?_
   rw [hF.p2,es]
   simp only [go_sem,e5]
   refine ⟨k+1,by omega,by omega,by simp only [zkq,zkv,zle,ax];omega,by repeat first|exact .refl _|refine .push ?_ _,ae (hcl1 _) (hlc _),?_,?_⟩
   ·simp [ltF,zle,ax,znn,znf,hlv]
    omega
   ·simp [aS,wk2,wk1,wkM,Fr.get]
  ·have hk':k=l.length:=by simp at hc;omega
   subst hk'
   rw [List.take_length]
   simp only [go_sem]
   refine ⟨?_,by repeat first|exact .refl _|refine .push ?_ _,hcl1 _,?_⟩
   ·simp [wk,wk2,wk1,af]
   ·simp [zns,znv]
def gD:List AV→AHeap→(AV→Prop)→Prop
 |[],_,K=>K (.agg (bp 12 223 228))
 |_,_,_=>False
theorem G2:EntOk Tryz.prog 88 (Ent.pure gD):=by
 refine Ype fun _ H K h=>?_
 unfold gD at h
 split at h
 rotate_left
 ·exact h.elim
 refine ⟨_,h,?_⟩
 refine ACalls.fW ak tNq Tryz.func88 [.cell 0 159] (nrq _) (T:=ag []) (h:=fun hcl hlt=>?_)
 clear hlt
 simp only [go_sem,bp]
 exact Z16
def AD:=eW (aR) nv iq
def ws:=gm 324 4 (aR) nv iq
theorem Df:EntOk Tryz.prog 324 (Ent.effect AD):=by
 unfold AD
 refine EntOk.effect fun args H K h=>?_
 unfold eW at h
 split at h
 rotate_left
 ·exact h.elim
 rename_i id x
 obtain ⟨q,s,a,⟨hW,rfl,ha,hl⟩,hK⟩:=h
 refine ⟨_,_,hK,?_⟩
 clear hK
 have hF:=hW.facts
 have hcl0:=hW.closed (t:=s.add (iq a))
 have hid:=glq hW.o
 have hq:=glq hW.bu
 refine ACalls.fW ak (tCq fJ (tCq uG (tCq En (tCq Bg tNq)))) Tryz.func324 [] (by rw [ax];omega) (T:=ag [(4,[[],[],[],[],[1,3]])]) (h:=fun hcl hlt=>?_)
 clear hlt
 have hcl1:=hcl0 hcl
 unfold iq at hl hcl1 ⊢
 rw [← aP,← aP,← aP] at hl hcl1 ⊢
 have hl4:=hl
 have hl3:=bc hl4
 have hl2:=bc hl3
 have hl1:=bc hl2
 simp only [go_sem,aR,kY,boL,ax,aF]
 refine ep (.inr rfl) (hW.push _) hl1 ?_
 rw [hF.p0]
 simp only [go_sem,aR,kY,boL,ax,aF]
 refine z7 ((hW.next _).push _) hl2 ?_
 rw [hF.p1]
 simp only [go_sem,aR,kY,boL,ax,aF]
 refine z7 ((hW.next _).push _) hl3 ?_
 rw [hF.p1]
 simp only [go_sem,aR,kY,boL,ax,aF]
 refine iA (c:=.bool) (fun _ _=>trivial) ((hW.next _).push _) hl4 ?_
 rw [hF.p1]
 try simp only [go_sem,aR,kY,boL,ax,aF]
 exact Z15
theorem Bz:EntOk Tryz.prog 242 (Ent.effect ws):=by
 unfold ws
 refine EntOk.effect fun args H K h=>?_
 unfold gm at h
 split at h
 rotate_left
 ·exact h.elim
 rename_i id most f' r sz' xs
 obtain ⟨q,s,l,⟨hW,rfl,rfl,rfl,ha,hl⟩,hK⟩:=h
 refine ⟨_,_,hK,?_⟩
 clear hK
 have hF:=hW.facts
 have hcl0:=fun t=>hW.closed (t:=t)
 have hid:=glq hW.o
 have hq:=glq hW.bu
 have hll:=fj Bh hl
 obtain ⟨b,sl,sf,sa⟩:=s
 have hne:=cm hid
 have hneq:=cm hq
 have n1:(id=q)=False:=eq_false hW.ne
 have n2:(q=id)=False:=eq_false fun e=>hW.ne e.symm
 have hcs:=au hW.o
 have hb0:=hW.bu
 have hi0:=hW.o
 have hnn:=hW.ne
 have hlb:b.length≤cz:=bc hl
 rw [bo] at hlb
 dsimp only at hcs hb0 hi0 hlb
 have lw2:=cS (l.length:Int) 2
 refine ACalls.fW ak (tCq bP (tCq Df tNq)) Tryz.func242 [] (by rw [ax];omega) (T:=ag [(2,[[],[],[],[],[],[],[],[],[4,7],[],[],[4,7]])]) (h:=fun hcl hlt=>?_)
 clear hlt
 have hcl1:=fun t=>hcl0 t hcl
 have hcm:=fun cs=>@bw H id cs hid
 have hA:=fun X Y=>@bM H id q X Y hnn hid
 have hB:=fun X=>cB (X:=X) hnn hb0
 have eh:=fun X Y Z=>@cC H id q X Y Z
 have hL2:sl=true→(sl||decide ((l.length:Int) > most))=true:=fun h=>by rw [h,Bool.true_or]
 have hL3:sl=false→decide ((l.length:Int) > most)=(sl||decide ((l.length:Int) > most)):=fun h=>by rw [h,Bool.false_or]
 have hst:=fm (H:=H) (id:=id) (q:=q) (b:=b) (sl:=sl) (sf:=sf) (sa:=sa) (n:=l.length) (most:=most)
 have hS1:=hW.next ((⟨b,sl,sf,sa⟩:Enc).add (ea l.length most))
 have htot:(((⟨b,sl,sf,sa⟩:Enc).add (ea l.length most)).add (bZ iq l))=(⟨b,sl,sf,sa⟩:Enc).add (b5 iq most l):=by rw [aP];rfl
 rw [← htot] at hl ⊢
 generalize ((⟨b,sl,sf,sa⟩:Enc).add (ea l.length most))=s1 at *
 generalize (sl||decide ((l.length:Int) > most))=L at *
 have hlv:∀ n,(AV.slice .any 4 (l.map (aR))).lt n:=fun n=>aL (fun x=>qm x)
 have hlc:=fun n=>@eu n most 324 r
 cases sl
 case' true =>
  rw [hL2 rfl] at hst
  simp only [go_sem,byq,hne,hneq,n1,n2,hcs,hcm,hA,hB,eh,hi0,hb0,aY,ybb]
 case' false =>
  simp only [go_sem,byq,hne,hneq,n1,n2,hcs,hcm,hA,hB,eh,hi0,hb0,aY,ybb,hL3 rfl]
 all_goals
  (repeat with_reducible refine And.intro (by first|assumption|decide|omega|exact ⟨by omega,by omega⟩) ?_)
  refine ay (A:=Nat) (fun k=>[(0,.ptr id 0),(4,.ptr H.nx 0),(33,.slice .any 4 (l.map (aR))),(34,.int .i64 (l.length:Int)),(35,.int .i64 (k:Int))])
   (fun k=>(swH H id q (s1.add (bZ iq (l.take k)))).push (.cells (bp most 324 r))) (fun k=>k≤l.length) (fun k=>l.length - k) 0 (by omega) ?_ fun k hk=>?_
  ·rw [yar,bZ,dY,hst]
   refine ⟨by simp only [zkq,zkv,zle,zlf,ax];omega,by repeat first|exact .refl _|refine .push ?_ _,?_,?_,?_⟩
   ·rw [← hst];exact ae (hcl1 _) (hlc _)
   ·simp [ltF,zle,zlf,znn,znf,hlv]
    omega
   ·simp [aS,wk2,wk1,wkM,Fr.get]
  simp only [go_sem]
  refine ah (fun hc=>?_) (fun hc=>?_)
  ·have hk':k<l.length:=by simp at hc;omega
   obtain ⟨x,hx⟩:∃ x,x=l[k]:=⟨_,rfl⟩
   have hg:=dx (f:=aR) (l:=l) (k:=k) (x:=x) (by rw [gQq hk',hx])
   have e5:=Yk5 k
   have hxo:=ha x (by rw [hx];exact gMq hk')
   obtain ⟨es,hlk⟩:=ex (g:=iq) hk' hx hl
   have hSk:=hW.next (s1.add (bZ iq (l.take k)))
   simp only [go_sem,iNq,ybb,hg,ax,aR,bp,bo]
   refine ⟨by omega,?_⟩
   refine nP (c:=aR) hxo (hSk.push2 _ _) hlk ?_
   rw [hF.p2,es]
   simp only [go_sem,e5]
   refine ⟨k+1,by omega,by omega,by simp only [zkq,zkv,zle,ax];omega,by repeat first|exact .refl _|refine .push ?_ _,ae (hcl1 _) (hlc _),?_,?_⟩
   ·simp [ltF,zle,ax,znn,znf,hlv]
    omega
   ·simp [aS,wk2,wk1,wkM,Fr.get]
  ·have hk':k=l.length:=by simp at hc;omega
   subst hk'
   rw [List.take_length]
   simp only [go_sem]
   refine ⟨?_,by repeat first|exact .refl _|refine .push ?_ _,hcl1 _,?_⟩
   ·simp [wk,wk2,wk1,af]
   ·simp [zns,znv]
def jj:List AV→AHeap→(AV→Prop)→Prop
 |[],_,K=>K (.agg (bp 8 324 327))
 |_,_,_=>False
theorem Hd:EntOk Tryz.prog 243 (Ent.pure jj):=by
 refine Ype fun _ H K h=>?_
 unfold jj at h
 split at h
 rotate_left
 ·exact h.elim
 refine ⟨_,h,?_⟩
 refine ACalls.fW ak tNq Tryz.func243 [.cell 0 301] (nrq _) (T:=ag []) (h:=fun hcl hlt=>?_)
 clear hlt
 simp only [go_sem,bp]
 exact Z16
theorem Cg:ti Tryz.prog 165=some ⟨.struct [(0,3,false),(1,162,false),(2,163,false)],3,24,.agg [.int .i64 0,.nilf,.nilf]⟩:=by kernel_rfl
theorem GI:ti Tryz.prog 162=some ⟨.func,1,8,.nilf⟩:=by kernel_rfl
theorem El:ti Tryz.prog 163=some ⟨.func,1,8,.nilf⟩:=by kernel_rfl
theorem Cv:ti Tryz.prog 177=some ⟨.struct [(0,3,false),(1,174,false),(2,175,false)],3,24,.agg [.int .i64 0,.nilf,.nilf]⟩:=by kernel_rfl
theorem Ez:ti Tryz.prog 174=some ⟨.func,1,8,.nilf⟩:=by kernel_rfl
theorem GD:ti Tryz.prog 175=some ⟨.func,1,8,.nilf⟩:=by kernel_rfl
attribute [go_sem] Cg GI El Cv Ez GD
def Ao:=eW (aq) nG gN
def wN:=gm 231 8 (aq) nG gN
theorem EH:EntOk Tryz.prog 231 (Ent.effect Ao):=by
 unfold Ao
 refine EntOk.effect fun args H K h=>?_
 unfold eW at h
 split at h
 rotate_left
 ·exact h.elim
 rename_i id x
 obtain ⟨q,s,a,⟨hW,rfl,ha,hl⟩,hK⟩:=h
 refine ⟨_,_,hK,?_⟩
 clear hK
 have hF:=hW.facts
 have hcl0:=hW.closed (t:=s.add (gN a))
 have hid:=glq hW.o
 have hq:=glq hW.bu
 refine ACalls.fW ak (tCq fJ (tCq kL (tCq EX (tCq Cm (tCq qF (tCq oB (tCq GV (tCq CF tNq)))))))) Tryz.func231 [] (by rw [ax];omega) (T:=ag [(3,[[],[],[],[],[1,3]]),(4,[[],[],[],[],[1,3]]),(6,[[],[],[],[],[1,3]])]) (h:=fun hcl hlt=>?_)
 clear hlt
 have hcl1:=hcl0 hcl
 unfold gN at hl hcl1 ⊢
 rw [← aP,← aP,← aP,← aP,← aP,← aP,← aP] at hl hcl1 ⊢
 have hl8:=hl
 have hl7:=bc hl8
 have hl6:=bc hl7
 have hl5:=bc hl6
 have hl4:=bc hl5
 have hl3:=bc hl4
 have hl2:=bc hl3
 have hl1:=bc hl2
 simp only [go_sem,aq,dD,ig,im,inL,ax,aF]
 refine ep (.inr rfl) (hW.push _) hl1 ?_
 rw [hF.p0]
 simp only [go_sem,aq,dD,ig,im,inL,ax,aF]
 refine nK (ha.1) ((hW.next _).push _) hl2 ?_
 rw [hF.p1]
 simp only [go_sem,aq,dD,ig,im,inL,ax,aF]
 refine iA (c:=br) (ha.2.1) ((hW.next _).push _) hl3 ?_
 rw [hF.p1]
 simp only [go_sem,aq,dD,ig,im,inL,ax,aF]
 refine iA (c:=.int .i64) (fun _ _=>trivial) ((hW.next _).push _) hl4 ?_
 rw [hF.p1]
 simp only [go_sem,aq,dD,ig,im,inL,ax,aF]
 refine ep (.inr rfl) ((hW.next _).push _) hl5 ?_
 rw [hF.p1]
 simp only [go_sem,aq,dD,ig,im,inL,ax,aF]
 refine iA (c:=vv) (ha.2.2.1) ((hW.next _).push _) hl6 ?_
 rw [hF.p1]
 simp only [go_sem,aq,dD,ig,im,inL,ax,aF]
 refine ep (.inr rfl) ((hW.next _).push _) hl7 ?_
 rw [hF.p1]
 simp only [go_sem,aq,dD,ig,im,inL,ax,aF]
 refine nK (ha.2.2.2) ((hW.next _).push _) hl8 ?_
 rw [hF.p1]
 try simp only [go_sem,aq,dD,ig,im,inL,ax,aF]
 exact Z15
theorem B7:EntOk Tryz.prog 89 (Ent.effect wN):=by
 unfold wN
 refine EntOk.effect fun args H K h=>?_
 unfold gm at h
 split at h
 rotate_left
 ·exact h.elim
 rename_i id most f' r sz' xs
 obtain ⟨q,s,l,⟨hW,rfl,rfl,rfl,ha,hl⟩,hK⟩:=h
 refine ⟨_,_,hK,?_⟩
 clear hK
 have hF:=hW.facts
 have hcl0:=fun t=>hW.closed (t:=t)
 have hid:=glq hW.o
 have hq:=glq hW.bu
 have hll:=fj CP hl
 obtain ⟨b,sl,sf,sa⟩:=s
 have hne:=cm hid
 have hneq:=cm hq
 have n1:(id=q)=False:=eq_false hW.ne
 have n2:(q=id)=False:=eq_false fun e=>hW.ne e.symm
 have hcs:=au hW.o
 have hb0:=hW.bu
 have hi0:=hW.o
 have hnn:=hW.ne
 have hlb:b.length≤cz:=bc hl
 rw [bo] at hlb
 dsimp only at hcs hb0 hi0 hlb
 have lw2:=cS (l.length:Int) 2
 refine ACalls.fW ak (tCq bP (tCq EH tNq)) Tryz.func89 [] (by rw [ax];omega) (T:=ag [(2,[[],[],[],[],[],[],[],[],[4,7],[],[],[4,7]])]) (h:=fun hcl hlt=>?_)
 clear hlt
 have hcl1:=fun t=>hcl0 t hcl
 have hcm:=fun cs=>@bw H id cs hid
 have hA:=fun X Y=>@bM H id q X Y hnn hid
 have hB:=fun X=>cB (X:=X) hnn hb0
 have eh:=fun X Y Z=>@cC H id q X Y Z
 have hL2:sl=true→(sl||decide ((l.length:Int) > most))=true:=fun h=>by rw [h,Bool.true_or]
 have hL3:sl=false→decide ((l.length:Int) > most)=(sl||decide ((l.length:Int) > most)):=fun h=>by rw [h,Bool.false_or]
 have hst:=fm (H:=H) (id:=id) (q:=q) (b:=b) (sl:=sl) (sf:=sf) (sa:=sa) (n:=l.length) (most:=most)
 have hS1:=hW.next ((⟨b,sl,sf,sa⟩:Enc).add (ea l.length most))
 have htot:(((⟨b,sl,sf,sa⟩:Enc).add (ea l.length most)).add (bZ gN l))=(⟨b,sl,sf,sa⟩:Enc).add (b5 gN most l):=by rw [aP];rfl
 rw [← htot] at hl ⊢
 generalize ((⟨b,sl,sf,sa⟩:Enc).add (ea l.length most))=s1 at *
 generalize (sl||decide ((l.length:Int) > most))=L at *
 have hlv:∀ n,(AV.slice .any 8 (l.map (aq))).lt n:=fun n=>aL (fun x=>yl x)
 have hlc:=fun n=>@eu n most 231 r
 cases sl
 case' true =>
  rw [hL2 rfl] at hst
  simp only [go_sem,byq,hne,hneq,n1,n2,hcs,hcm,hA,hB,eh,hi0,hb0,aY,ybb]
 case' false =>
  simp only [go_sem,byq,hne,hneq,n1,n2,hcs,hcm,hA,hB,eh,hi0,hb0,aY,ybb,hL3 rfl]
 all_goals
  (repeat with_reducible refine And.intro (by first|assumption|decide|omega|exact ⟨by omega,by omega⟩) ?_)
  refine ay (A:=Nat) (fun k=>[(0,.ptr id 0),(4,.ptr H.nx 0),(33,.slice .any 8 (l.map (aq))),(34,.int .i64 (l.length:Int)),(35,.int .i64 (k:Int))])
   (fun k=>(swH H id q (s1.add (bZ gN (l.take k)))).push (.cells (bp most 231 r))) (fun k=>k≤l.length) (fun k=>l.length - k) 0 (by omega) ?_ fun k hk=>?_
  ·rw [yar,bZ,dY,hst]
   refine ⟨by simp only [zkq,zkv,zle,zlf,ax];omega,by repeat first|exact .refl _|refine .push ?_ _,?_,?_,?_⟩
   ·rw [← hst];exact ae (hcl1 _) (hlc _)
   ·simp [ltF,zle,zlf,znn,znf,hlv]
    omega
   ·simp [aS,wk2,wk1,wkM,Fr.get]
  simp only [go_sem]
  refine ah (fun hc=>?_) (fun hc=>?_)
  ·have hk':k<l.length:=by simp at hc;omega
   obtain ⟨x,hx⟩:∃ x,x=l[k]:=⟨_,rfl⟩
   have hg:=dx (f:=aq) (l:=l) (k:=k) (x:=x) (by rw [gQq hk',hx])
   have e5:=Yk5 k
   have hxo:=ha x (by rw [hx];exact gMq hk')
   obtain ⟨es,hlk⟩:=ex (g:=gN) hk' hx hl
   have hSk:=hW.next (s1.add (bZ gN (l.take k)))
   simp only [go_sem,iNq,ybb,hg,ax,aq,bp,bo]
   refine ⟨by omega,?_⟩
   refine nP (c:=aq) hxo (hSk.push2 _ _) hlk ?_
   rw [hF.p2,es]
   simp only [go_sem,e5]
   refine ⟨k+1,by omega,by omega,by simp only [zkq,zkv,zle,ax];omega,by repeat first|exact .refl _|refine .push ?_ _,ae (hcl1 _) (hlc _),?_,?_⟩
   ·simp [ltF,zle,ax,znn,znf,hlv]
    omega
   ·simp [aS,wk2,wk1,wkM,Fr.get]
  ·have hk':k=l.length:=by simp at hc;omega
   subst hk'
   rw [List.take_length]
   simp only [go_sem]
   refine ⟨?_,by repeat first|exact .refl _|refine .push ?_ _,hcl1 _,?_⟩
   ·simp [wk,wk2,wk1,af]
   ·simp [zns,znv]
def gG:List AV→AHeap→(AV→Prop)→Prop
 |[],_,K=>K (.agg (bp 8 231 236))
 |_,_,_=>False
theorem Ed:EntOk Tryz.prog 90 (Ent.pure gG):=by
 refine Ype fun _ H K h=>?_
 unfold gG at h
 split at h
 rotate_left
 ·exact h.elim
 refine ⟨_,h,?_⟩
 refine ACalls.fW ak tNq Tryz.func90 [.cell 0 165] (nrq _) (T:=ag []) (h:=fun hcl hlt=>?_)
 clear hlt
 simp only [go_sem,bp]
 exact Z16
def zx:=eW (aN) xR jy
def w6:=gm 241 6 (aN) xR jy
theorem E9:EntOk Tryz.prog 241 (Ent.effect zx):=by
 unfold zx
 refine EntOk.effect fun args H K h=>?_
 unfold eW at h
 split at h
 rotate_left
 ·exact h.elim
 rename_i id x
 obtain ⟨q,s,a,⟨hW,rfl,ha,hl⟩,hK⟩:=h
 refine ⟨_,_,hK,?_⟩
 clear hK
 have hF:=hW.facts
 have hcl0:=hW.closed (t:=s.add (jy a))
 have hid:=glq hW.o
 have hq:=glq hW.bu
 refine ACalls.fW ak (tCq fJ (tCq kL (tCq Hd (tCq Bz (tCq qF (tCq oB (tCq uG tNq))))))) Tryz.func241 [] (by rw [ax];omega) (T:=ag [(3,[[],[],[],[],[1,3]]),(4,[[],[],[],[],[1,3]])]) (h:=fun hcl hlt=>?_)
 clear hlt
 have hcl1:=hcl0 hcl
 unfold jy at hl hcl1 ⊢
 rw [← aP,← aP,← aP,← aP,← aP] at hl hcl1 ⊢
 have hl6:=hl
 have hl5:=bc hl6
 have hl4:=bc hl5
 have hl3:=bc hl4
 have hl2:=bc hl3
 have hl1:=bc hl2
 simp only [go_sem,aN,jj,dD,inL,ax,aF]
 refine ep (.inr rfl) (hW.push _) hl1 ?_
 rw [hF.p0]
 simp only [go_sem,aN,jj,dD,inL,ax,aF]
 refine nK (ha) ((hW.next _).push _) hl2 ?_
 rw [hF.p1]
 simp only [go_sem,aN,jj,dD,inL,ax,aF]
 refine iA (c:=aR) (fun _ _=>trivial) ((hW.next _).push _) hl3 ?_
 rw [hF.p1]
 simp only [go_sem,aN,jj,dD,inL,ax,aF]
 refine iA (c:=.int .i64) (fun _ _=>trivial) ((hW.next _).push _) hl4 ?_
 rw [hF.p1]
 simp only [go_sem,aN,jj,dD,inL,ax,aF]
 refine ep (.inr rfl) ((hW.next _).push _) hl5 ?_
 rw [hF.p1]
 simp only [go_sem,aN,jj,dD,inL,ax,aF]
 refine z7 ((hW.next _).push _) hl6 ?_
 rw [hF.p1]
 try simp only [go_sem,aN,jj,dD,inL,ax,aF]
 exact Z15
theorem BK:EntOk Tryz.prog 93 (Ent.effect w6):=by
 unfold w6
 refine EntOk.effect fun args H K h=>?_
 unfold gm at h
 split at h
 rotate_left
 ·exact h.elim
 rename_i id most f' r sz' xs
 obtain ⟨q,s,l,⟨hW,rfl,rfl,rfl,ha,hl⟩,hK⟩:=h
 refine ⟨_,_,hK,?_⟩
 clear hK
 have hF:=hW.facts
 have hcl0:=fun t=>hW.closed (t:=t)
 have hid:=glq hW.o
 have hq:=glq hW.bu
 have hll:=fj Hm hl
 obtain ⟨b,sl,sf,sa⟩:=s
 have hne:=cm hid
 have hneq:=cm hq
 have n1:(id=q)=False:=eq_false hW.ne
 have n2:(q=id)=False:=eq_false fun e=>hW.ne e.symm
 have hcs:=au hW.o
 have hb0:=hW.bu
 have hi0:=hW.o
 have hnn:=hW.ne
 have hlb:b.length≤cz:=bc hl
 rw [bo] at hlb
 dsimp only at hcs hb0 hi0 hlb
 have lw2:=cS (l.length:Int) 2
 refine ACalls.fW ak (tCq bP (tCq E9 tNq)) Tryz.func93 [] (by rw [ax];omega) (T:=ag [(2,[[],[],[],[],[],[],[],[],[4,7],[],[],[4,7]])]) (h:=fun hcl hlt=>?_)
 clear hlt
 have hcl1:=fun t=>hcl0 t hcl
 have hcm:=fun cs=>@bw H id cs hid
 have hA:=fun X Y=>@bM H id q X Y hnn hid
 have hB:=fun X=>cB (X:=X) hnn hb0
 have eh:=fun X Y Z=>@cC H id q X Y Z
 have hL2:sl=true→(sl||decide ((l.length:Int) > most))=true:=fun h=>by rw [h,Bool.true_or]
 have hL3:sl=false→decide ((l.length:Int) > most)=(sl||decide ((l.length:Int) > most)):=fun h=>by rw [h,Bool.false_or]
 have hst:=fm (H:=H) (id:=id) (q:=q) (b:=b) (sl:=sl) (sf:=sf) (sa:=sa) (n:=l.length) (most:=most)
 have hS1:=hW.next ((⟨b,sl,sf,sa⟩:Enc).add (ea l.length most))
 have htot:(((⟨b,sl,sf,sa⟩:Enc).add (ea l.length most)).add (bZ jy l))=(⟨b,sl,sf,sa⟩:Enc).add (b5 jy most l):=by rw [aP];rfl
 rw [← htot] at hl ⊢
 generalize ((⟨b,sl,sf,sa⟩:Enc).add (ea l.length most))=s1 at *
 generalize (sl||decide ((l.length:Int) > most))=L at *
 have hlv:∀ n,(AV.slice .any 6 (l.map (aN))).lt n:=fun n=>aL (fun x=>BD x)
 have hlc:=fun n=>@eu n most 241 r
 cases sl
 case' true =>
  rw [hL2 rfl] at hst
  simp only [go_sem,byq,hne,hneq,n1,n2,hcs,hcm,hA,hB,eh,hi0,hb0,aY,ybb]
 case' false =>
  simp only [go_sem,byq,hne,hneq,n1,n2,hcs,hcm,hA,hB,eh,hi0,hb0,aY,ybb,hL3 rfl]
 all_goals
  (repeat with_reducible refine And.intro (by first|assumption|decide|omega|exact ⟨by omega,by omega⟩) ?_)
  refine ay (A:=Nat) (fun k=>[(0,.ptr id 0),(4,.ptr H.nx 0),(33,.slice .any 6 (l.map (aN))),(34,.int .i64 (l.length:Int)),(35,.int .i64 (k:Int))])
   (fun k=>(swH H id q (s1.add (bZ jy (l.take k)))).push (.cells (bp most 241 r))) (fun k=>k≤l.length) (fun k=>l.length - k) 0 (by omega) ?_ fun k hk=>?_
  ·rw [yar,bZ,dY,hst]
   refine ⟨by simp only [zkq,zkv,zle,zlf,ax];omega,by repeat first|exact .refl _|refine .push ?_ _,?_,?_,?_⟩
   ·rw [← hst];exact ae (hcl1 _) (hlc _)
   ·simp [ltF,zle,zlf,znn,znf,hlv]
    omega
   ·simp [aS,wk2,wk1,wkM,Fr.get]
  simp only [go_sem]
  refine ah (fun hc=>?_) (fun hc=>?_)
  ·have hk':k<l.length:=by simp at hc;omega
   obtain ⟨x,hx⟩:∃ x,x=l[k]:=⟨_,rfl⟩
   have hg:=dx (f:=aN) (l:=l) (k:=k) (x:=x) (by rw [gQq hk',hx])
   have e5:=Yk5 k
   have hxo:=ha x (by rw [hx];exact gMq hk')
   obtain ⟨es,hlk⟩:=ex (g:=jy) hk' hx hl
   have hSk:=hW.next (s1.add (bZ jy (l.take k)))
   simp only [go_sem,iNq,ybb,hg,ax,aN,bp,bo]
   refine ⟨by omega,?_⟩
   refine nP (c:=aN) hxo (hSk.push2 _ _) hlk ?_
   rw [hF.p2,es]
   simp only [go_sem,e5]
   refine ⟨k+1,by omega,by omega,by simp only [zkq,zkv,zle,ax];omega,by repeat first|exact .refl _|refine .push ?_ _,ae (hcl1 _) (hlc _),?_,?_⟩
   ·simp [ltF,zle,ax,znn,znf,hlv]
    omega
   ·simp [aS,wk2,wk1,wkM,Fr.get]
  ·have hk':k=l.length:=by simp at hc;omega
   subst hk'
   rw [List.take_length]
   simp only [go_sem]
   refine ⟨?_,by repeat first|exact .refl _|refine .push ?_ _,hcl1 _,?_⟩
   ·simp [wk,wk2,wk1,af]
   ·simp [zns,znv]
def gE:List AV→AHeap→(AV→Prop)→Prop
 |[],_,K=>K (.agg (bp 6 241 245))
 |_,_,_=>False
theorem Gm:EntOk Tryz.prog 94 (Ent.pure gE):=by
 refine Ype fun _ H K h=>?_
 unfold gE at h
 split at h
 rotate_left
 ·exact h.elim
 refine ⟨_,h,?_⟩
 refine ACalls.fW ak tNq Tryz.func94 [.cell 0 177] (nrq _) (T:=ag []) (h:=fun hcl hlt=>?_)
 clear hlt
 simp only [go_sem,bp]
 exact Z16
theorem Jq:ti Tryz.prog 239=some ⟨.struct [(0,22,false),(1,4,false),(2,4,false),(3,4,false)],4,32,.agg [.slice .nil 1 [],.bool false,.bool false,.bool false]⟩:=by kernel_rfl
theorem EV:ti Tryz.prog 237=some ⟨.ptr 239,1,8,.nilp⟩:=by kernel_rfl
attribute [go_sem] Jq EV
end Go.AL
