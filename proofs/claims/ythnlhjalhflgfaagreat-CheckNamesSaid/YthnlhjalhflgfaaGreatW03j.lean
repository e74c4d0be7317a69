/- Lemmas of the proof; no condition. -/
import Derived.Test.YthnlhjalhflgfaaGreatW03e
set_option linter.all false
set_option maxRecDepth 10000
set_option maxHeartbeats 32000000
open List renaming length_cons → yaz, length_nil → yba, take_of_length_le → ybc, drop_append → ybd, take_append → ybe, drop_eq_nil_of_le → ybf, length_map → ybb, take_zero → yar
open Go Go.AL Go.Proofs
namespace Go.AL
theorem Cj:ti Tryz.prog 134=some ⟨.struct [(0,3,false),(1,131,false),(2,132,false)],3,24,.agg [.int .i64 0,.nilf,.nilf]⟩:=by kernel_rfl
theorem Hw:ti Tryz.prog 131=some ⟨.func,1,8,.nilf⟩:=by kernel_rfl
theorem GB:ti Tryz.prog 132=some ⟨.func,1,8,.nilf⟩:=by kernel_rfl
theorem AB:ti Tryz.prog 140=some ⟨.struct [(0,3,false),(1,137,false),(2,138,false)],3,24,.agg [.int .i64 0,.nilf,.nilf]⟩:=by kernel_rfl
theorem Gr:ti Tryz.prog 137=some ⟨.func,1,8,.nilf⟩:=by kernel_rfl
theorem Hp:ti Tryz.prog 138=some ⟨.func,1,8,.nilf⟩:=by kernel_rfl
theorem Ce:ti Tryz.prog 146=some ⟨.struct [(0,3,false),(1,143,false),(2,144,false)],3,24,.agg [.int .i64 0,.nilf,.nilf]⟩:=by kernel_rfl
theorem E2:ti Tryz.prog 143=some ⟨.func,1,8,.nilf⟩:=by kernel_rfl
theorem HQ:ti Tryz.prog 144=some ⟨.func,1,8,.nilf⟩:=by kernel_rfl
theorem Bi:ti Tryz.prog 295=some ⟨.struct [(0,3,false),(1,292,false),(2,293,false)],3,24,.agg [.int .i64 0,.nilf,.nilf]⟩:=by kernel_rfl
theorem Ge:ti Tryz.prog 292=some ⟨.func,1,8,.nilf⟩:=by kernel_rfl
theorem E1:ti Tryz.prog 293=some ⟨.func,1,8,.nilf⟩:=by kernel_rfl
attribute [go_sem] Cj Hw GB AB Gr Hp Ce E2 HQ Bi Ge E1
def zQ:=eW (aH) sK g9
def Es:=j9 196 3 (aH) sK g9
theorem DB:EntOk Tryz.prog 196 (Ent.effect zQ):=by
 unfold zQ
 refine EntOk.effect fun args H K h=>?_
 unfold eW at h
 split at h
 rotate_left
 ·exact h.elim
 rename_i id x
 obtain ⟨q,s,a,⟨hW,rfl,ha,hl⟩,hK⟩:=h
 refine ⟨_,_,hK,?_⟩
 clear hK
 have hF:=hW.facts
 have hcl0:=hW.closed (t:=s.add (g9 a))
 have hid:=glq hW.o
 have hq:=glq hW.bu
 refine ACalls.fW ap (tCq fS (tCq lD (tCq qT (tCq pX tNq)))) Tryz.func196 [] (by rw [az];omega) (T:=aj [(3,[[],[],[],[],[1,3]])]) (h:=fun hcl hlt=>?_)
 clear hlt
 have hcl1:=hcl0 hcl
 unfold g9 at hl hcl1 ⊢
 rw [← aR,← aR] at hl hcl1 ⊢
 have hl3:=hl
 have hl2:=bb hl3
 have hl1:=bb hl2
 simp only [go_sem,aH,dJ,inL,az,aF]
 refine eC (.inr rfl) (hW.push _) hl1 ?_
 rw [hF.p0]
 simp only [go_sem,aH,dJ,inL,az,aF]
 refine oq (ha) ((hW.next _).push _) hl2 ?_
 rw [hF.p1]
 simp only [go_sem,aH,dJ,inL,az,aF]
 refine iT (c:=.int .i64) (fun _ _=>trivial) ((hW.next _).push _) hl3 ?_
 rw [hF.p1]
 try simp only [go_sem,aH,dJ,inL,az,aF]
 exact Z15
theorem AM:EntOk Tryz.prog 61 (Ent.effect Es):=iZ yd (fun _ x=>wS x) (fun _=>⟨_,rfl,rfl,rfl⟩) fun wf sz c ok g ew es ec eo eg hone hlt' hag id most r q s l H hW ha hl=>by
 refine ACalls.fW ap (tCq cb (tCq DB tNq)) Tryz.func61 [] (by rw [az];omega) (T:=aj [(2,[[],[],[],[],[],[],[],[],[4,7],[],[],[4,7]])]) (h:=fun hcl hlt=>?_)
 have hF:=hW.facts
 have hcl1:=fun t=>hW.closed (t:=t) hcl
 have hid:=glq hW.o
 have hq:=glq hW.bu
 have hll:=fA hone hl
 obtain ⟨b,sl,sf,sa⟩:=s
 have hne:=cz hid
 have hneq:=cz hq
 have n1:(id=q)=False:=eq_false hW.ne
 have n2:(q=id)=False:=eq_false fun e=>hW.ne e.symm
 have hcs:=ag hW.o
 have hb0:=hW.bu
 have hi0:=hW.o
 have hnn:=hW.ne
 have hlb:b.length≤cG:=bb hl
 rw [br] at hlb
 dsimp only at hcs hb0 hi0 hlb
 have lw2:=cO (l.length:Int) 2
 clear hlt
 have hcm:=fun cs=>@bA H id cs hid
 have hA:=fun X Y=>@bS H id q X Y hnn hid
 have hB:=fun X=>cL (X:=X) hnn hb0
 have eh:=fun X Y Z=>@cM H id q X Y Z
 have hL2:sl=true→(sl||decide ((l.length:Int) > most))=true:=fun h=>by rw [h,Bool.true_or]
 have hL3:sl=false→decide ((l.length:Int) > most)=(sl||decide ((l.length:Int) > most)):=fun h=>by rw [h,Bool.false_or]
 have hst:=fw (H:=H) (id:=id) (q:=q) (b:=b) (sl:=sl) (sf:=sf) (sa:=sa) (n:=l.length) (most:=most)
 have hS1:=hW.next ((⟨b,sl,sf,sa⟩:Enc).add (d7 l.length most))
 have htot:(((⟨b,sl,sf,sa⟩:Enc).add (d7 l.length most)).add (bR g l))=(⟨b,sl,sf,sa⟩:Enc).add (bF g most l):=by rw [aR];rfl
 rw [← htot] at hl ⊢
 generalize ((⟨b,sl,sf,sa⟩:Enc).add (d7 l.length most))=s1 at *
 generalize (sl||decide ((l.length:Int) > most))=L at *
 have hlv:∀ n,(AV.slice .any sz (l.map c)).lt n:=fun n=>aZ (hlt' n)
 have hlc:=fun n=>@eD n most wf r
 cases sl
 case' true =>
  rw [hL2 rfl] at hst
  simp only [go_sem,byq,hne,hneq,n1,n2,hcs,hcm,hA,hB,eh,hi0,hb0,aW,ybb]
 case' false =>
  simp only [go_sem,byq,hne,hneq,n1,n2,hcs,hcm,hA,hB,eh,hi0,hb0,aW,ybb,hL3 rfl]
 all_goals
  (repeat with_reducible refine And.intro (by first|assumption|decide|omega|exact ⟨by omega,by omega⟩) ?_)
  refine aD (A:=Nat) (fun k=>[(0,.ptr id 0),(4,.ptr H.nx 0),(33,.slice .any sz (l.map c)),(34,.int .i64 (l.length:Int)),(35,.int .i64 (k:Int))])
   (fun k=>(swH H id q (s1.add (bR g (l.take k)))).push (.cells (bw most wf r))) (fun k=>k≤l.length) (fun k=>l.length - k) 0 (by omega) ?_ fun k hk=>?_
  ·rw [yar,bR,d9,hst]
   refine ⟨by simp only [zkq,zkv,zle,zlf,az];omega,by repeat first|exact .refl _|refine .push ?_ _,?_,?_,?_⟩
   ·rw [← hst];exact af (hcl1 _) (hlc _)
   ·simp [ltF,zle,zlf,znn,znf,hlv]
    omega
   ·simp [bk,wk2,wk1,wkM,Fr.get]
  simp only [go_sem]
  refine ak (fun hc=>?_) (fun hc=>?_)
  ·have hk':k<l.length:=by simp at hc;omega
   obtain ⟨x,hx⟩:∃ x,x=l[k]:=⟨_,rfl⟩
   have hg:=dz (f:=c) (l:=l) (k:=k) (x:=x) (by rw [gQq hk',hx])
   have e5:=Yk5 k
   have hxo:=ha x (by rw [hx];exact gMq hk')
   obtain ⟨es',hlk⟩:=eE (g:=g) hk' hx hl
   have hSk:=hW.next (s1.add (bR g (l.take k)))
   obtain ⟨cs,hcc,hcl3,hall⟩:=hag x
   have hsp:∀ zs:List AV,zs.length=sz→splice zs 0 cs=cs:=fun zs hz=>dm (hz.trans hcl3.symm)
   have hts:List.take sz cs=cs:=ybc (by omega)
   rw [hcc] at hg
   clear hag
   subst ew es ec eo eg
   simp only [go_sem,iNq,ybb,hg,hcl3,hts,hall,hsp,if_true,yaz,yba,az,bw,br]
   refine ⟨by omega,?_⟩
   rw [← hcc]
   refine oR hxo (hSk.push2 _ _) hlk ?_
   rw [hF.p2,es']
   simp only [go_sem,e5]
   refine ⟨k+1,by omega,by omega,by simp only [zkq,zkv,zle,az];omega,by repeat first|exact .refl _|refine .push ?_ _,af (hcl1 _) (hlc _),?_,?_⟩
   ·simp [ltF,zle,az,znn,znf,hlv]
    omega
   ·simp [bk,wk2,wk1,wkM,Fr.get]
  ·have hk':k=l.length:=by simp at hc;omega
   subst hk'
   rw [List.take_length]
   simp only [go_sem]
   refine ⟨?_,by repeat first|exact .refl _|refine .push ?_ _,hcl1 _,?_⟩
   ·simp [wk,wk2,wk1,ae]
   ·simp [zns,znv]
def hP:List AV→AHeap→(AV→Prop)→Prop
 |[],_,K=>K (.agg (bw 8 196 199))
 |_,_,_=>False
theorem Ea:EntOk Tryz.prog 62 (Ent.pure hP):=by
 refine Ype fun _ H K h=>?_
 unfold hP at h
 split at h
 rotate_left
 ·exact h.elim
 refine ⟨_,h,?_⟩
 refine ACalls.fW ap tNq Tryz.func62 [.cell 0 134] (nrq _) (T:=aj []) (h:=fun hcl hlt=>?_)
 clear hlt
 simp only [go_sem,bw]
 exact Z16
def zc:=eW (aO) uW jt
def Gm:=j9 201 5 (aO) uW jt
theorem EF:EntOk Tryz.prog 201 (Ent.effect zc):=by
 unfold zc
 refine EntOk.effect fun args H K h=>?_
 unfold eW at h
 split at h
 rotate_left
 ·exact h.elim
 rename_i id x
 obtain ⟨q,s,a,⟨hW,rfl,ha,hl⟩,hK⟩:=h
 refine ⟨_,_,hK,?_⟩
 clear hK
 have hF:=hW.facts
 have hcl0:=hW.closed (t:=s.add (jt a))
 have hid:=glq hW.o
 have hq:=glq hW.bu
 refine ACalls.fW ap (tCq fS (tCq Ef (tCq BI tNq))) Tryz.func201 [] (by rw [az];omega) (T:=aj [(4,[[],[],[],[],[1,3]])]) (h:=fun hcl hlt=>?_)
 clear hlt
 have hcl1:=hcl0 hcl
 unfold jt at hl hcl1 ⊢
 rw [← aR,← aR,← aR,← aR] at hl hcl1 ⊢
 have hl5:=hl
 have hl4:=bb hl5
 have hl3:=bb hl4
 have hl2:=bb hl3
 have hl1:=bb hl2
 simp only [go_sem,aO,km,az,aF]
 refine eC (.inr rfl) (hW.push _) hl1 ?_
 rw [hF.p0]
 simp only [go_sem,aO,km,az,aF]
 refine eC (.inr rfl) ((hW.next _).push _) hl2 ?_
 rw [hF.p1]
 simp only [go_sem,aO,km,az,aF]
 refine eC (.inr rfl) ((hW.next _).push _) hl3 ?_
 rw [hF.p1]
 simp only [go_sem,aO,km,az,aF]
 refine iT (c:=cI) (ha) ((hW.next _).push _) hl4 ?_
 rw [hF.p1]
 simp only [go_sem,aO,km,az,aF]
 refine eC (.inr rfl) ((hW.next _).push _) hl5 ?_
 rw [hF.p1]
 try simp only [go_sem,aO,km,az,aF]
 exact Z15
theorem BJ:EntOk Tryz.prog 63 (Ent.effect Gm):=iZ Ck (fun _ x=>xO x) (fun _=>⟨_,rfl,rfl,rfl⟩) fun wf sz c ok g ew es ec eo eg hone hlt' hag id most r q s l H hW ha hl=>by
 refine ACalls.fW ap (tCq cb (tCq EF tNq)) Tryz.func63 [] (by rw [az];omega) (T:=aj [(2,[[],[],[],[],[],[],[],[],[4,7],[],[],[4,7]])]) (h:=fun hcl hlt=>?_)
 have hF:=hW.facts
 have hcl1:=fun t=>hW.closed (t:=t) hcl
 have hid:=glq hW.o
 have hq:=glq hW.bu
 have hll:=fA hone hl
 obtain ⟨b,sl,sf,sa⟩:=s
 have hne:=cz hid
 have hneq:=cz hq
 have n1:(id=q)=False:=eq_false hW.ne
 have n2:(q=id)=False:=eq_false fun e=>hW.ne e.symm
 have hcs:=ag hW.o
 have hb0:=hW.bu
 have hi0:=hW.o
 have hnn:=hW.ne
 have hlb:b.length≤cG:=bb hl
 rw [br] at hlb
 dsimp only at hcs hb0 hi0 hlb
 have lw2:=cO (l.length:Int) 2
 clear hlt
 have hcm:=fun cs=>@bA H id cs hid
 have hA:=fun X Y=>@bS H id q X Y hnn hid
 have hB:=fun X=>cL (X:=X) hnn hb0
 have eh:=fun X Y Z=>@cM H id q X Y Z
 have hL2:sl=true→(sl||decide ((l.length:Int) > most))=true:=fun h=>by rw [h,Bool.true_or]
 have hL3:sl=false→decide ((l.length:Int) > most)=(sl||decide ((l.length:Int) > most)):=fun h=>by rw [h,Bool.false_or]
 have hst:=fw (H:=H) (id:=id) (q:=q) (b:=b) (sl:=sl) (sf:=sf) (sa:=sa) (n:=l.length) (most:=most)
 have hS1:=hW.next ((⟨b,sl,sf,sa⟩:Enc).add (d7 l.length most))
 have htot:(((⟨b,sl,sf,sa⟩:Enc).add (d7 l.length most)).add (bR g l))=(⟨b,sl,sf,sa⟩:Enc).add (bF g most l):=by rw [aR];rfl
 rw [← htot] at hl ⊢
 generalize ((⟨b,sl,sf,sa⟩:Enc).add (d7 l.length most))=s1 at *
 generalize (sl||decide ((l.length:Int) > most))=L at *
 have hlv:∀ n,(AV.slice .any sz (l.map c)).lt n:=fun n=>aZ (hlt' n)
 have hlc:=fun n=>@eD n most wf r
 cases sl
 case' true =>
  rw [hL2 rfl] at hst
  simp only [go_sem,byq,hne,hneq,n1,n2,hcs,hcm,hA,hB,eh,hi0,hb0,aW,ybb]
 case' false =>
  simp only [go_sem,byq,hne,hneq,n1,n2,hcs,hcm,hA,hB,eh,hi0,hb0,aW,ybb,hL3 rfl]
 all_goals
  (repeat with_reducible refine And.intro (by first|assumption|decide|omega|exact ⟨by omega,by omega⟩) ?_)
  refine aD (A:=Nat) (fun k=>[(0,.ptr id 0),(4,.ptr H.nx 0),(33,.slice .any sz (l.map c)),(34,.int .i64 (l.length:Int)),(35,.int .i64 (k:Int))])
   (fun k=>(swH H id q (s1.add (bR g (l.take k)))).push (.cells (bw most wf r))) (fun k=>k≤l.length) (fun k=>l.length - k) 0 (by omega) ?_ fun k hk=>?_
  ·rw [yar,bR,d9,hst]
   refine ⟨by simp only [zkq,zkv,zle,zlf,az];omega,by repeat first|exact .refl _|refine .push ?_ _,?_,?_,?_⟩
   ·rw [← hst];exact af (hcl1 _) (hlc _)
   ·simp [ltF,zle,zlf,znn,znf,hlv]
    omega
   ·simp [bk,wk2,wk1,wkM,Fr.get]
  simp only [go_sem]
  refine ak (fun hc=>?_) (fun hc=>?_)
  ·have hk':k<l.length:=by simp at hc;omega
   obtain ⟨x,hx⟩:∃ x,x=l[k]:=⟨_,rfl⟩
   have hg:=dz (f:=c) (l:=l) (k:=k) (x:=x) (by rw [gQq hk',hx])
   have e5:=Yk5 k
   have hxo:=ha x (by rw [hx];exact gMq hk')
   obtain ⟨es',hlk⟩:=eE (g:=g) hk' hx hl
   have hSk:=hW.next (s1.add (bR g (l.take k)))
   obtain ⟨cs,hcc,hcl3,hall⟩:=hag x
   have hsp:∀ zs:List AV,zs.length=sz→splice zs 0 cs=cs:=fun zs hz=>dm (hz.trans hcl3.symm)
   have hts:List.take sz cs=cs:=ybc (by omega)
   rw [hcc] at hg
   clear hag
   subst ew es ec eo eg
   simp only [go_sem,iNq,ybb,hg,hcl3,hts,hall,hsp,if_true,yaz,yba,az,bw,br]
   refine ⟨by omega,?_⟩
   rw [← hcc]
   refine oR hxo (hSk.push2 _ _) hlk ?_
   rw [hF.p2,es']
   simp only [go_sem,e5]
   refine ⟨k+1,by omega,by omega,by simp only [zkq,zkv,zle,az];omega,by repeat first|exact .refl _|refine .push ?_ _,af (hcl1 _) (hlc _),?_,?_⟩
   ·simp [ltF,zle,az,znn,znf,hlv]
    omega
   ·simp [bk,wk2,wk1,wkM,Fr.get]
  ·have hk':k=l.length:=by simp at hc;omega
   subst hk'
   rw [List.take_length]
   simp only [go_sem]
   refine ⟨?_,by repeat first|exact .refl _|refine .push ?_ _,hcl1 _,?_⟩
   ·simp [wk,wk2,wk1,ae]
   ·simp [zns,znv]
def gV:List AV→AHeap→(AV→Prop)→Prop
 |[],_,K=>K (.agg (bw 12 201 204))
 |_,_,_=>False
theorem Ev:EntOk Tryz.prog 64 (Ent.pure gV):=by
 refine Ype fun _ H K h=>?_
 unfold gV at h
 split at h
 rotate_left
 ·exact h.elim
 refine ⟨_,h,?_⟩
 refine ACalls.fW ap tNq Tryz.func64 [.cell 0 140] (nrq _) (T:=aj []) (h:=fun hcl hlt=>?_)
 clear hlt
 simp only [go_sem,bw]
 exact Z16
def zO:=eW (aA) mO hG
def EZ:=j9 206 5 (aA) mO hG
theorem Gc:EntOk Tryz.prog 206 (Ent.effect zO):=by
 unfold zO
 refine EntOk.effect fun args H K h=>?_
 unfold eW at h
 split at h
 rotate_left
 ·exact h.elim
 rename_i id x
 obtain ⟨q,s,a,⟨hW,rfl,ha,hl⟩,hK⟩:=h
 refine ⟨_,_,hK,?_⟩
 clear hK
 have hF:=hW.facts
 have hcl0:=hW.closed (t:=s.add (hG a))
 have hid:=glq hW.o
 have hq:=glq hW.bu
 refine ACalls.fW ap (tCq fS (tCq lD (tCq EK (tCq AC (tCq FU (tCq B6 tNq)))))) Tryz.func206 [] (by rw [az];omega) (T:=aj [(3,[[],[],[],[],[1,3]]),(4,[[],[],[],[],[1,3]])]) (h:=fun hcl hlt=>?_)
 clear hlt
 have hcl1:=hcl0 hcl
 unfold hG at hl hcl1 ⊢
 rw [← aR,← aR,← aR,← aR] at hl hcl1 ⊢
 have hl5:=hl
 have hl4:=bb hl5
 have hl3:=bb hl4
 have hl2:=bb hl3
 have hl1:=bb hl2
 simp only [go_sem,aA,kq,kh,az,aF]
 refine eC (.inr rfl) (hW.push _) hl1 ?_
 rw [hF.p0]
 simp only [go_sem,aA,kq,kh,az,aF]
 refine oq (ha.1) ((hW.next _).push _) hl2 ?_
 rw [hF.p1]
 simp only [go_sem,aA,kq,kh,az,aF]
 refine iT (c:=bv) (ha.2.1) ((hW.next _).push _) hl3 ?_
 rw [hF.p1]
 simp only [go_sem,aA,kq,kh,az,aF]
 refine iT (c:=bV) (ha.2.2.1) ((hW.next _).push _) hl4 ?_
 rw [hF.p1]
 simp only [go_sem,aA,kq,kh,az,aF]
 refine oq (ha.2.2.2) ((hW.next _).push _) hl5 ?_
 rw [hF.p1]
 try simp only [go_sem,aA,kq,kh,az,aF]
 exact Z15
theorem Bk:EntOk Tryz.prog 65 (Ent.effect EZ):=iZ yf (fun _ x=>ww x) (fun _=>⟨_,rfl,rfl,rfl⟩) fun wf sz c ok g ew es ec eo eg hone hlt' hag id most r q s l H hW ha hl=>by
 refine ACalls.fW ap (tCq cb (tCq Gc tNq)) Tryz.func65 [] (by rw [az];omega) (T:=aj [(2,[[],[],[],[],[],[],[],[],[4,7],[],[],[4,7]])]) (h:=fun hcl hlt=>?_)
 have hF:=hW.facts
 have hcl1:=fun t=>hW.closed (t:=t) hcl
 have hid:=glq hW.o
 have hq:=glq hW.bu
 have hll:=fA hone hl
 obtain ⟨b,sl,sf,sa⟩:=s
 have hne:=cz hid
 have hneq:=cz hq
 have n1:(id=q)=False:=eq_false hW.ne
 have n2:(q=id)=False:=eq_false fun e=>hW.ne e.symm
 have hcs:=ag hW.o
 have hb0:=hW.bu
 have hi0:=hW.o
 have hnn:=hW.ne
 have hlb:b.length≤cG:=bb hl
 rw [br] at hlb
 dsimp only at hcs hb0 hi0 hlb
 have lw2:=cO (l.length:Int) 2
 clear hlt
 have hcm:=fun cs=>@bA H id cs hid
 have hA:=fun X Y=>@bS H id q X Y hnn hid
 have hB:=fun X=>cL (X:=X) hnn hb0
 have eh:=fun X Y Z=>@cM H id q X Y Z
 have hL2:sl=true→(sl||decide ((l.length:Int) > most))=true:=fun h=>by rw [h,Bool.true_or]
 have hL3:sl=false→decide ((l.length:Int) > most)=(sl||decide ((l.length:Int) > most)):=fun h=>by rw [h,Bool.false_or]
 have hst:=fw (H:=H) (id:=id) (q:=q) (b:=b) (sl:=sl) (sf:=sf) (sa:=sa) (n:=l.length) (most:=most)
 have hS1:=hW.next ((⟨b,sl,sf,sa⟩:Enc).add (d7 l.length most))
 have htot:(((⟨b,sl,sf,sa⟩:Enc).add (d7 l.length most)).add (bR g l))=(⟨b,sl,sf,sa⟩:Enc).add (bF g most l):=by rw [aR];rfl
 rw [← htot] at hl ⊢
 generalize ((⟨b,sl,sf,sa⟩:Enc).add (d7 l.length most))=s1 at *
 generalize (sl||decide ((l.length:Int) > most))=L at *
 have hlv:∀ n,(AV.slice .any sz (l.map c)).lt n:=fun n=>aZ (hlt' n)
 have hlc:=fun n=>@eD n most wf r
 cases sl
 case' true =>
  rw [hL2 rfl] at hst
  simp only [go_sem,byq,hne,hneq,n1,n2,hcs,hcm,hA,hB,eh,hi0,hb0,aW,ybb]
 case' false =>
  simp only [go_sem,byq,hne,hneq,n1,n2,hcs,hcm,hA,hB,eh,hi0,hb0,aW,ybb,hL3 rfl]
 all_goals
  (repeat with_reducible refine And.intro (by first|assumption|decide|omega|exact ⟨by omega,by omega⟩) ?_)
  refine aD (A:=Nat) (fun k=>[(0,.ptr id 0),(4,.ptr H.nx 0),(33,.slice .any sz (l.map c)),(34,.int .i64 (l.length:Int)),(35,.int .i64 (k:Int))])
   (fun k=>(swH H id q (s1.add (bR g (l.take k)))).push (.cells (bw most wf r))) (fun k=>k≤l.length) (fun k=>l.length - k) 0 (by omega) ?_ fun k hk=>?_
  ·rw [yar,bR,d9,hst]
   refine ⟨by simp only [zkq,zkv,zle,zlf,az];omega,by repeat first|exact .refl _|refine .push ?_ _,?_,?_,?_⟩
   ·rw [← hst];exact af (hcl1 _) (hlc _)
   ·simp [ltF,zle,zlf,znn,znf,hlv]
    omega
   ·simp [bk,wk2,wk1,wkM,Fr.get]
  simp only [go_sem]
  refine ak (fun hc=>?_) (fun hc=>?_)
  ·have hk':k<l.length:=by simp at hc;omega
   obtain ⟨x,hx⟩:∃ x,x=l[k]:=⟨_,rfl⟩
   have hg:=dz (f:=c) (l:=l) (k:=k) (x:=x) (by rw [gQq hk',hx])
   have e5:=Yk5 k
   have hxo:=ha x (by rw [hx];exact gMq hk')
   obtain ⟨es',hlk⟩:=eE (g:=g) hk' hx hl
   have hSk:=hW.next (s1.add (bR g (l.take k)))
   obtain ⟨cs,hcc,hcl3,hall⟩:=hag x
   have hsp:∀ zs:List AV,zs.length=sz→splice zs 0 cs=cs:=fun zs hz=>dm (hz.trans hcl3.symm)
   have hts:List.take sz cs=cs:=ybc (by omega)
   rw [hcc] at hg
   clear hag
   subst ew es ec eo eg
   simp only [go_sem,iNq,ybb,hg,hcl3,hts,hall,hsp,if_true,yaz,yba,az,bw,br]
   refine ⟨by omega,?_⟩
   rw [← hcc]
   refine oR hxo (hSk.push2 _ _) hlk ?_
   rw [hF.p2,es']
   simp only [go_sem,e5]
   refine ⟨k+1,by omega,by omega,by simp only [zkq,zkv,zle,az];omega,by repeat first|exact .refl _|refine .push ?_ _,af (hcl1 _) (hlc _),?_,?_⟩
   ·simp [ltF,zle,az,znn,znf,hlv]
    omega
   ·simp [bk,wk2,wk1,wkM,Fr.get]
  ·have hk':k=l.length:=by simp at hc;omega
   subst hk'
   rw [List.take_length]
   simp only [go_sem]
   refine ⟨?_,by repeat first|exact .refl _|refine .push ?_ _,hcl1 _,?_⟩
   ·simp [wk,wk2,wk1,ae]
   ·simp [zns,znv]
def g8:List AV→AHeap→(AV→Prop)→Prop
 |[],_,K=>K (.agg (bw 12 206 211))
 |_,_,_=>False
theorem CJ:EntOk Tryz.prog 66 (Ent.pure g8):=by
 refine Ype fun _ H K h=>?_
 unfold g8 at h
 split at h
 rotate_left
 ·exact h.elim
 refine ⟨_,h,?_⟩
 refine ACalls.fW ap tNq Tryz.func66 [.cell 0 146] (nrq _) (T:=aj []) (h:=fun hcl hlt=>?_)
 clear hlt
 simp only [go_sem,bw]
 exact Z16
def y7:=eW (bj) pn jP
def H8:=j9 312 4 (bj) pn jP
theorem Fo:EntOk Tryz.prog 312 (Ent.effect y7):=by
 unfold y7
 refine EntOk.effect fun args H K h=>?_
 unfold eW at h
 split at h
 rotate_left
 ·exact h.elim
 rename_i id x
 obtain ⟨q,s,a,⟨hW,rfl,ha,hl⟩,hK⟩:=h
 refine ⟨_,_,hK,?_⟩
 clear hK
 have hF:=hW.facts
 have hcl0:=hW.closed (t:=s.add (jP a))
 have hid:=glq hW.o
 have hq:=glq hW.bu
 refine ACalls.fW ap (tCq fS (tCq uO (tCq DD (tCq BS tNq)))) Tryz.func312 [] (by rw [az];omega) (T:=aj [(4,[[],[],[],[],[1,3]])]) (h:=fun hcl hlt=>?_)
 clear hlt
 have hcl1:=hcl0 hcl
 unfold jP at hl hcl1 ⊢
 rw [← aR,← aR,← aR] at hl hcl1 ⊢
 have hl4:=hl
 have hl3:=bb hl4
 have hl2:=bb hl3
 have hl1:=bb hl2
 simp only [go_sem,bj,ls,boL,az,aF]
 refine eC (.inr rfl) (hW.push _) hl1 ?_
 rw [hF.p0]
 simp only [go_sem,bj,ls,boL,az,aF]
 refine zR ((hW.next _).push _) hl2 ?_
 rw [hF.p1]
 simp only [go_sem,bj,ls,boL,az,aF]
 refine zR ((hW.next _).push _) hl3 ?_
 rw [hF.p1]
 simp only [go_sem,bj,ls,boL,az,aF]
 refine iT (c:=.bool) (fun _ _=>trivial) ((hW.next _).push _) hl4 ?_
 rw [hF.p1]
 try simp only [go_sem,bj,ls,boL,az,aF]
 exact Z15
theorem AN:EntOk Tryz.prog 225 (Ent.effect H8):=iZ BM (fun _ x=>ra x) (fun _=>⟨_,rfl,rfl,rfl⟩) fun wf sz c ok g ew es ec eo eg hone hlt' hag id most r q s l H hW ha hl=>by
 refine ACalls.fW ap (tCq cb (tCq Fo tNq)) Tryz.func225 [] (by rw [az];omega) (T:=aj [(2,[[],[],[],[],[],[],[],[],[4,7],[],[],[4,7]])]) (h:=fun hcl hlt=>?_)
 have hF:=hW.facts
 have hcl1:=fun t=>hW.closed (t:=t) hcl
 have hid:=glq hW.o
 have hq:=glq hW.bu
 have hll:=fA hone hl
 obtain ⟨b,sl,sf,sa⟩:=s
 have hne:=cz hid
 have hneq:=cz hq
 have n1:(id=q)=False:=eq_false hW.ne
 have n2:(q=id)=False:=eq_false fun e=>hW.ne e.symm
 have hcs:=ag hW.o
 have hb0:=hW.bu
 have hi0:=hW.o
 have hnn:=hW.ne
 have hlb:b.length≤cG:=bb hl
 rw [br] at hlb
 dsimp only at hcs hb0 hi0 hlb
 have lw2:=cO (l.length:Int) 2
 clear hlt
 have hcm:=fun cs=>@bA H id cs hid
 have hA:=fun X Y=>@bS H id q X Y hnn hid
 have hB:=fun X=>cL (X:=X) hnn hb0
 have eh:=fun X Y Z=>@cM H id q X Y Z
 have hL2:sl=true→(sl||decide ((l.length:Int) > most))=true:=fun h=>by rw [h,Bool.true_or]
 have hL3:sl=false→decide ((l.length:Int) > most)=(sl||decide ((l.length:Int) > most)):=fun h=>by rw [h,Bool.false_or]
 have hst:=fw (H:=H) (id:=id) (q:=q) (b:=b) (sl:=sl) (sf:=sf) (sa:=sa) (n:=l.length) (most:=most)
 have hS1:=hW.next ((⟨b,sl,sf,sa⟩:Enc).add (d7 l.length most))
 have htot:(((⟨b,sl,sf,sa⟩:Enc).add (d7 l.length most)).add (bR g l))=(⟨b,sl,sf,sa⟩:Enc).add (bF g most l):=by rw [aR];rfl
 rw [← htot] at hl ⊢
 generalize ((⟨b,sl,sf,sa⟩:Enc).add (d7 l.length most))=s1 at *
 generalize (sl||decide ((l.length:Int) > most))=L at *
 have hlv:∀ n,(AV.slice .any sz (l.map c)).lt n:=fun n=>aZ (hlt' n)
 have hlc:=fun n=>@eD n most wf r
 cases sl
 case' true =>
  rw [hL2 rfl] at hst
  simp only [go_sem,byq,hne,hneq,n1,n2,hcs,hcm,hA,hB,eh,hi0,hb0,aW,ybb]
 case' false =>
  simp only [go_sem,byq,hne,hneq,n1,n2,hcs,hcm,hA,hB,eh,hi0,hb0,aW,ybb,hL3 rfl]
 all_goals
  (repeat with_reducible refine And.intro (by first|assumption|decide|omega|exact ⟨by omega,by omega⟩) ?_)
  refine aD (A:=Nat) (fun k=>[(0,.ptr id 0),(4,.ptr H.nx 0),(33,.slice .any sz (l.map c)),(34,.int .i64 (l.length:Int)),(35,.int .i64 (k:Int))])
   (fun k=>(swH H id q (s1.add (bR g (l.take k)))).push (.cells (bw most wf r))) (fun k=>k≤l.length) (fun k=>l.length - k) 0 (by omega) ?_ fun k hk=>?_
  ·rw [yar,bR,d9,hst]
   refine ⟨by simp only [zkq,zkv,zle,zlf,az];omega,by repeat first|exact .refl _|refine .push ?_ _,?_,?_,?_⟩
   ·rw [← hst];exact af (hcl1 _) (hlc _)
   ·simp [ltF,zle,zlf,znn,znf,hlv]
    omega
   ·simp [bk,wk2,wk1,wkM,Fr.get]
  simp only [go_sem]
  refine ak (fun hc=>?_) (fun hc=>?_)
  ·have hk':k<l.length:=by simp at hc;omega
   obtain ⟨x,hx⟩:∃ x,x=l[k]:=⟨_,rfl⟩
   have hg:=dz (f:=c) (l:=l) (k:=k) (x:=x) (by rw [gQq hk',hx])
   have e5:=Yk5 k
   have hxo:=ha x (by rw [hx];exact gMq hk')
   obtain ⟨es',hlk⟩:=eE (g:=g) hk' hx hl
   have hSk:=hW.next (s1.add (bR g (l.take k)))
   obtain ⟨cs,hcc,hcl3,hall⟩:=hag x
   have hsp:∀ zs:List AV,zs.length=sz→splice zs 0 cs=cs:=fun zs hz=>dm (hz.trans hcl3.symm)
   have hts:List.take sz cs=cs:=ybc (by omega)
   rw [hcc] at hg
   clear hag
   subst ew es ec eo eg
   simp only [go_sem,iNq,ybb,hg,hcl3,hts,hall,hsp,if_true,yaz,yba,az,bw,br]
   refine ⟨by omega,?_⟩
   rw [← hcc]
   refine oR hxo (hSk.push2 _ _) hlk ?_
   rw [hF.p2,es']
   simp only [go_sem,e5]
   refine ⟨k+1,by omega,by omega,by simp only [zkq,zkv,zle,az];omega,by repeat first|exact .refl _|refine .push ?_ _,af (hcl1 _) (hlc _),?_,?_⟩
   ·simp [ltF,zle,az,znn,znf,hlv]
    omega
   ·simp [bk,wk2,wk1,wkM,Fr.get]
  ·have hk':k=l.length:=by simp at hc;omega
   subst hk'
   rw [List.take_length]
   simp only [go_sem]
   refine ⟨?_,by repeat first|exact .refl _|refine .push ?_ _,hcl1 _,?_⟩
   ·simp [wk,wk2,wk1,ae]
   ·simp [zns,znv]
def jF:List AV→AHeap→(AV→Prop)→Prop
 |[],_,K=>K (.agg (bw 8 312 315))
 |_,_,_=>False
theorem FQ:EntOk Tryz.prog 226 (Ent.pure jF):=by
 refine Ype fun _ H K h=>?_
 unfold jF at h
 split at h
 rotate_left
 ·exact h.elim
 refine ⟨_,h,?_⟩
 refine ACalls.fW ap tNq Tryz.func226 [.cell 0 295] (nrq _) (T:=aj []) (h:=fun hcl hlt=>?_)
 clear hlt
 simp only [go_sem,bw]
 exact Z16
theorem Ar:ti Tryz.prog 152=some ⟨.struct [(0,3,false),(1,149,false),(2,150,false)],3,24,.agg [.int .i64 0,.nilf,.nilf]⟩:=by kernel_rfl
theorem G6:ti Tryz.prog 149=some ⟨.func,1,8,.nilf⟩:=by kernel_rfl
theorem Gb:ti Tryz.prog 150=some ⟨.func,1,8,.nilf⟩:=by kernel_rfl
theorem BE:ti Tryz.prog 164=some ⟨.struct [(0,3,false),(1,161,false),(2,162,false)],3,24,.agg [.int .i64 0,.nilf,.nilf]⟩:=by kernel_rfl
theorem DZ:ti Tryz.prog 161=some ⟨.func,1,8,.nilf⟩:=by kernel_rfl
theorem Gi:ti Tryz.prog 162=some ⟨.func,1,8,.nilf⟩:=by kernel_rfl
attribute [go_sem] Ar G6 Gb BE DZ Gi
def Ah:=eW (aC) pi jv
def CP:=j9 214 8 (aC) pi jv
theorem GO:EntOk Tryz.prog 214 (Ent.effect Ah):=by
 unfold Ah
 refine EntOk.effect fun args H K h=>?_
 unfold eW at h
 split at h
 rotate_left
 ·exact h.elim
 rename_i id x
 obtain ⟨q,s,a,⟨hW,rfl,ha,hl⟩,hK⟩:=h
 refine ⟨_,_,hK,?_⟩
 clear hK
 have hF:=hW.facts
 have hcl0:=hW.closed (t:=s.add (jv a))
 have hid:=glq hW.o
 have hq:=glq hW.bu
 refine ACalls.fW ap (tCq fS (tCq lD (tCq GR (tCq Bu (tCq qT (tCq pX (tCq Ff (tCq AD tNq)))))))) Tryz.func214 [] (by rw [az];omega) (T:=aj [(3,[[],[],[],[],[1,3]]),(4,[[],[],[],[],[1,3]]),(6,[[],[],[],[],[1,3]])]) (h:=fun hcl hlt=>?_)
 clear hlt
 have hcl1:=hcl0 hcl
 unfold jv at hl hcl1 ⊢
 rw [← aR,← aR,← aR,← aR,← aR,← aR,← aR] at hl hcl1 ⊢
 have hl8:=hl
 have hl7:=bb hl8
 have hl6:=bb hl7
 have hl5:=bb hl6
 have hl4:=bb hl5
 have hl3:=bb hl4
 have hl2:=bb hl3
 have hl1:=bb hl2
 simp only [go_sem,aC,dJ,iQ,iq,inL,az,aF]
 refine eC (.inr rfl) (hW.push _) hl1 ?_
 rw [hF.p0]
 simp only [go_sem,aC,dJ,iQ,iq,inL,az,aF]
 refine oq (ha.1) ((hW.next _).push _) hl2 ?_
 rw [hF.p1]
 simp only [go_sem,aC,dJ,iQ,iq,inL,az,aF]
 refine iT (c:=bE) (ha.2.1) ((hW.next _).push _) hl3 ?_
 rw [hF.p1]
 simp only [go_sem,aC,dJ,iQ,iq,inL,az,aF]
 refine iT (c:=.int .i64) (fun _ _=>trivial) ((hW.next _).push _) hl4 ?_
 rw [hF.p1]
 simp only [go_sem,aC,dJ,iQ,iq,inL,az,aF]
 refine eC (.inr rfl) ((hW.next _).push _) hl5 ?_
 rw [hF.p1]
 simp only [go_sem,aC,dJ,iQ,iq,inL,az,aF]
 refine iT (c:=vv) (ha.2.2.1) ((hW.next _).push _) hl6 ?_
 rw [hF.p1]
 simp only [go_sem,aC,dJ,iQ,iq,inL,az,aF]
 refine eC (.inr rfl) ((hW.next _).push _) hl7 ?_
 rw [hF.p1]
 simp only [go_sem,aC,dJ,iQ,iq,inL,az,aF]
 refine oq (ha.2.2.2) ((hW.next _).push _) hl8 ?_
 rw [hF.p1]
 try simp only [go_sem,aC,dJ,iQ,iq,inL,az,aF]
 exact Z15
theorem BW:EntOk Tryz.prog 67 (Ent.effect CP):=iZ A1 (fun _ x=>xI x) (fun _=>⟨_,rfl,rfl,rfl⟩) fun wf sz c ok g ew es ec eo eg hone hlt' hag id most r q s l H hW ha hl=>by
 refine ACalls.fW ap (tCq cb (tCq GO tNq)) Tryz.func67 [] (by rw [az];omega) (T:=aj [(2,[[],[],[],[],[],[],[],[],[4,7],[],[],[4,7]])]) (h:=fun hcl hlt=>?_)
 have hF:=hW.facts
 have hcl1:=fun t=>hW.closed (t:=t) hcl
 have hid:=glq hW.o
 have hq:=glq hW.bu
 have hll:=fA hone hl
 obtain ⟨b,sl,sf,sa⟩:=s
 have hne:=cz hid
 have hneq:=cz hq
 have n1:(id=q)=False:=eq_false hW.ne
 have n2:(q=id)=False:=eq_false fun e=>hW.ne e.symm
 have hcs:=ag hW.o
 have hb0:=hW.bu
 have hi0:=hW.o
 have hnn:=hW.ne
 have hlb:b.length≤cG:=bb hl
 rw [br] at hlb
 dsimp only at hcs hb0 hi0 hlb
 have lw2:=cO (l.length:Int) 2
 clear hlt
 have hcm:=fun cs=>@bA H id cs hid
 have hA:=fun X Y=>@bS H id q X Y hnn hid
 have hB:=fun X=>cL (X:=X) hnn hb0
 have eh:=fun X Y Z=>@cM H id q X Y Z
 have hL2:sl=true→(sl||decide ((l.length:Int) > most))=true:=fun h=>by rw [h,Bool.true_or]
 have hL3:sl=false→decide ((l.length:Int) > most)=(sl||decide ((l.length:Int) > most)):=fun h=>by rw [h,Bool.false_or]
 have hst:=fw (H:=H) (id:=id) (q:=q) (b:=b) (sl:=sl) (sf:=sf) (sa:=sa) (n:=l.length) (most:=most)
 have hS1:=hW.next ((⟨b,sl,sf,sa⟩:Enc).add (d7 l.length most))
 have htot:(((⟨b,sl,sf,sa⟩:Enc).add (d7 l.length most)).add (bR g l))=(⟨b,sl,sf,sa⟩:Enc).add (bF g most l):=by rw [aR];rfl
 rw [← htot] at hl ⊢
 generalize ((⟨b,sl,sf,sa⟩:Enc).add (d7 l.length most))=s1 at *
 generalize (sl||decide ((l.length:Int) > most))=L at *
 have hlv:∀ n,(AV.slice .any sz (l.map c)).lt n:=fun n=>aZ (hlt' n)
 have hlc:=fun n=>@eD n most wf r
 cases sl
 case' true =>
  rw [hL2 rfl] at hst
  simp only [go_sem,byq,hne,hneq,n1,n2,hcs,hcm,hA,hB,eh,hi0,hb0,aW,ybb]
 case' false =>
  simp only [go_sem,byq,hne,hneq,n1,n2,hcs,hcm,hA,hB,eh,hi0,hb0,aW,ybb,hL3 rfl]
 all_goals
  (repeat with_reducible refine And.intro (by first|assumption|decide|omega|exact ⟨by omega,by omega⟩) ?_)
  refine aD (A:=Nat) (fun k=>[(0,.ptr id 0),(4,.ptr H.nx 0),(33,.slice .any sz (l.map c)),(34,.int .i64 (l.length:Int)),(35,.int .i64 (k:Int))])
   (fun k=>(swH H id q (s1.add (bR g (l.take k)))).push (.cells (bw most wf r))) (fun k=>k≤l.length) (fun k=>l.length - k) 0 (by omega) ?_ fun k hk=>?_
  ·rw [yar,bR,d9,hst]
   refine ⟨by simp only [zkq,zkv,zle,zlf,az];omega,by repeat first|exact .refl _|refine .push ?_ _,?_,?_,?_⟩
   ·rw [← hst];exact af (hcl1 _) (hlc _)
   ·simp [ltF,zle,zlf,znn,znf,hlv]
    omega
   ·simp [bk,wk2,wk1,wkM,Fr.get]
  simp only [go_sem]
  refine ak (fun hc=>?_) (fun hc=>?_)
  ·have hk':k<l.length:=by simp at hc;omega
   obtain ⟨x,hx⟩:∃ x,x=l[k]:=⟨_,rfl⟩
   have hg:=dz (f:=c) (l:=l) (k:=k) (x:=x) (by rw [gQq hk',hx])
   have e5:=Yk5 k
   have hxo:=ha x (by rw [hx];exact gMq hk')
   obtain ⟨es',hlk⟩:=eE (g:=g) hk' hx hl
   have hSk:=hW.next (s1.add (bR g (l.take k)))
   obtain ⟨cs,hcc,hcl3,hall⟩:=hag x
   have hsp:∀ zs:List AV,zs.length=sz→splice zs 0 cs=cs:=fun zs hz=>dm (hz.trans hcl3.symm)
   have hts:List.take sz cs=cs:=ybc (by omega)
   rw [hcc] at hg
   clear hag
   subst ew es ec eo eg
   simp only [go_sem,iNq,ybb,hg,hcl3,hts,hall,hsp,if_true,yaz,yba,az,bw,br]
   refine ⟨by omega,?_⟩
   rw [← hcc]
   refine oR hxo (hSk.push2 _ _) hlk ?_
   rw [hF.p2,es']
   simp only [go_sem,e5]
   refine ⟨k+1,by omega,by omega,by simp only [zkq,zkv,zle,az];omega,by repeat first|exact .refl _|refine .push ?_ _,af (hcl1 _) (hlc _),?_,?_⟩
   ·simp [ltF,zle,az,znn,znf,hlv]
    omega
   ·simp [bk,wk2,wk1,wkM,Fr.get]
  ·have hk':k=l.length:=by simp at hc;omega
   subst hk'
   rw [List.take_length]
   simp only [go_sem]
   refine ⟨?_,by repeat first|exact .refl _|refine .push ?_ _,hcl1 _,?_⟩
   ·simp [wk,wk2,wk1,ae]
   ·simp [zns,znv]
def gZ:List AV→AHeap→(AV→Prop)→Prop
 |[],_,K=>K (.agg (bw 8 214 219))
 |_,_,_=>False
theorem HC:EntOk Tryz.prog 68 (Ent.pure gZ):=by
 refine Ype fun _ H K h=>?_
 unfold gZ at h
 split at h
 rotate_left
 ·exact h.elim
 refine ⟨_,h,?_⟩
 refine ACalls.fW ap tNq Tryz.func68 [.cell 0 152] (nrq _) (T:=aj []) (h:=fun hcl hlt=>?_)
 clear hlt
 simp only [go_sem,bw]
 exact Z16
def zH:=eW (bc) xK kL
def CW:=j9 224 6 (bc) xK kL
theorem Ei:EntOk Tryz.prog 224 (Ent.effect zH):=by
 unfold zH
 refine EntOk.effect fun args H K h=>?_
 unfold eW at h
 split at h
 rotate_left
 ·exact h.elim
 rename_i id x
 obtain ⟨q,s,a,⟨hW,rfl,ha,hl⟩,hK⟩:=h
 refine ⟨_,_,hK,?_⟩
 clear hK
 have hF:=hW.facts
 have hcl0:=hW.closed (t:=s.add (kL a))
 have hid:=glq hW.o
 have hq:=glq hW.bu
 refine ACalls.fW ap (tCq fS (tCq lD (tCq FQ (tCq AN (tCq qT (tCq pX (tCq uO tNq))))))) Tryz.func224 [] (by rw [az];omega) (T:=aj [(3,[[],[],[],[],[1,3]]),(4,[[],[],[],[],[1,3]])]) (h:=fun hcl hlt=>?_)
 clear hlt
 have hcl1:=hcl0 hcl
 unfold kL at hl hcl1 ⊢
 rw [← aR,← aR,← aR,← aR,← aR] at hl hcl1 ⊢
 have hl6:=hl
 have hl5:=bb hl6
 have hl4:=bb hl5
 have hl3:=bb hl4
 have hl2:=bb hl3
 have hl1:=bb hl2
 simp only [go_sem,bc,jF,dJ,inL,az,aF]
 refine eC (.inr rfl) (hW.push _) hl1 ?_
 rw [hF.p0]
 simp only [go_sem,bc,jF,dJ,inL,az,aF]
 refine oq (ha) ((hW.next _).push _) hl2 ?_
 rw [hF.p1]
 simp only [go_sem,bc,jF,dJ,inL,az,aF]
 refine iT (c:=bj) (fun _ _=>trivial) ((hW.next _).push _) hl3 ?_
 rw [hF.p1]
 simp only [go_sem,bc,jF,dJ,inL,az,aF]
 refine iT (c:=.int .i64) (fun _ _=>trivial) ((hW.next _).push _) hl4 ?_
 rw [hF.p1]
 simp only [go_sem,bc,jF,dJ,inL,az,aF]
 refine eC (.inr rfl) ((hW.next _).push _) hl5 ?_
 rw [hF.p1]
 simp only [go_sem,bc,jF,dJ,inL,az,aF]
 refine zR ((hW.next _).push _) hl6 ?_
 rw [hF.p1]
 try simp only [go_sem,bc,jF,dJ,inL,az,aF]
 exact Z15
theorem BN:EntOk Tryz.prog 71 (Ent.effect CW):=iZ Dr (fun _ x=>B4 x) (fun _=>⟨_,rfl,rfl,rfl⟩) fun wf sz c ok g ew es ec eo eg hone hlt' hag id most r q s l H hW ha hl=>by
 refine ACalls.fW ap (tCq cb (tCq Ei tNq)) Tryz.func71 [] (by rw [az];omega) (T:=aj [(2,[[],[],[],[],[],[],[],[],[4,7],[],[],[4,7]])]) (h:=fun hcl hlt=>?_)
 have hF:=hW.facts
 have hcl1:=fun t=>hW.closed (t:=t) hcl
 have hid:=glq hW.o
 have hq:=glq hW.bu
 have hll:=fA hone hl
 obtain ⟨b,sl,sf,sa⟩:=s
 have hne:=cz hid
 have hneq:=cz hq
 have n1:(id=q)=False:=eq_false hW.ne
 have n2:(q=id)=False:=eq_false fun e=>hW.ne e.symm
 have hcs:=ag hW.o
 have hb0:=hW.bu
 have hi0:=hW.o
 have hnn:=hW.ne
 have hlb:b.length≤cG:=bb hl
 rw [br] at hlb
 dsimp only at hcs hb0 hi0 hlb
 have lw2:=cO (l.length:Int) 2
 clear hlt
 have hcm:=fun cs=>@bA H id cs hid
 have hA:=fun X Y=>@bS H id q X Y hnn hid
 have hB:=fun X=>cL (X:=X) hnn hb0
 have eh:=fun X Y Z=>@cM H id q X Y Z
 have hL2:sl=true→(sl||decide ((l.length:Int) > most))=true:=fun h=>by rw [h,Bool.true_or]
 have hL3:sl=false→decide ((l.length:Int) > most)=(sl||decide ((l.length:Int) > most)):=fun h=>by rw [h,Bool.false_or]
 have hst:=fw (H:=H) (id:=id) (q:=q) (b:=b) (sl:=sl) (sf:=sf) (sa:=sa) (n:=l.length) (most:=most)
 have hS1:=hW.next ((⟨b,sl,sf,sa⟩:Enc).add (d7 l.length most))
 have htot:(((⟨b,sl,sf,sa⟩:Enc).add (d7 l.length most)).add (bR g l))=(⟨b,sl,sf,sa⟩:Enc).add (bF g most l):=by rw [aR];rfl
 rw [← htot] at hl ⊢
 generalize ((⟨b,sl,sf,sa⟩:Enc).add (d7 l.length most))=s1 at *
 generalize (sl||decide ((l.length:Int) > most))=L at *
 have hlv:∀ n,(AV.slice .any sz (l.map c)).lt n:=fun n=>aZ (hlt' n)
 have hlc:=fun n=>@eD n most wf r
 cases sl
 case' true =>
  rw [hL2 rfl] at hst
  simp only [go_sem,byq,hne,hneq,n1,n2,hcs,hcm,hA,hB,eh,hi0,hb0,aW,ybb]
 case' false =>
  simp only [go_sem,byq,hne,hneq,n1,n2,hcs,hcm,hA,hB,eh,hi0,hb0,aW,ybb,hL3 rfl]
 all_goals
  (repeat with_reducible refine And.intro (by first|assumption|decide|omega|exact ⟨by omega,by omega⟩) ?_)
  refine aD (A:=Nat) (fun k=>[(0,.ptr id 0),(4,.ptr H.nx 0),(33,.slice .any sz (l.map c)),(34,.int .i64 (l.length:Int)),(35,.int .i64 (k:Int))])
   (fun k=>(swH H id q (s1.add (bR g (l.take k)))).push (.cells (bw most wf r))) (fun k=>k≤l.length) (fun k=>l.length - k) 0 (by omega) ?_ fun k hk=>?_
  ·rw [yar,bR,d9,hst]
   refine ⟨by simp only [zkq,zkv,zle,zlf,az];omega,by repeat first|exact .refl _|refine .push ?_ _,?_,?_,?_⟩
   ·rw [← hst];exact af (hcl1 _) (hlc _)
   ·simp [ltF,zle,zlf,znn,znf,hlv]
    omega
   ·simp [bk,wk2,wk1,wkM,Fr.get]
  simp only [go_sem]
  refine ak (fun hc=>?_) (fun hc=>?_)
  ·have hk':k<l.length:=by simp at hc;omega
   obtain ⟨x,hx⟩:∃ x,x=l[k]:=⟨_,rfl⟩
   have hg:=dz (f:=c) (l:=l) (k:=k) (x:=x) (by rw [gQq hk',hx])
   have e5:=Yk5 k
   have hxo:=ha x (by rw [hx];exact gMq hk')
   obtain ⟨es',hlk⟩:=eE (g:=g) hk' hx hl
   have hSk:=hW.next (s1.add (bR g (l.take k)))
   obtain ⟨cs,hcc,hcl3,hall⟩:=hag x
   have hsp:∀ zs:List AV,zs.length=sz→splice zs 0 cs=cs:=fun zs hz=>dm (hz.trans hcl3.symm)
   have hts:List.take sz cs=cs:=ybc (by omega)
   rw [hcc] at hg
   clear hag
   subst ew es ec eo eg
   simp only [go_sem,iNq,ybb,hg,hcl3,hts,hall,hsp,if_true,yaz,yba,az,bw,br]
   refine ⟨by omega,?_⟩
   rw [← hcc]
   refine oR hxo (hSk.push2 _ _) hlk ?_
   rw [hF.p2,es']
   simp only [go_sem,e5]
   refine ⟨k+1,by omega,by omega,by simp only [zkq,zkv,zle,az];omega,by repeat first|exact .refl _|refine .push ?_ _,af (hcl1 _) (hlc _),?_,?_⟩
   ·simp [ltF,zle,az,znn,znf,hlv]
    omega
   ·simp [bk,wk2,wk1,wkM,Fr.get]
  ·have hk':k=l.length:=by simp at hc;omega
   subst hk'
   rw [List.take_length]
   simp only [go_sem]
   refine ⟨?_,by repeat first|exact .refl _|refine .push ?_ _,hcl1 _,?_⟩
   ·simp [wk,wk2,wk1,ae]
   ·simp [zns,znv]
def hO:List AV→AHeap→(AV→Prop)→Prop
 |[],_,K=>K (.agg (bw 6 224 228))
 |_,_,_=>False
theorem Hr:EntOk Tryz.prog 72 (Ent.pure hO):=by
 refine Ype fun _ H K h=>?_
 unfold hO at h
 split at h
 rotate_left
 ·exact h.elim
 refine ⟨_,h,?_⟩
 refine ACalls.fW ap tNq Tryz.func72 [.cell 0 164] (nrq _) (T:=aj []) (h:=fun hcl hlt=>?_)
 clear hlt
 simp only [go_sem,bw]
 exact Z16
theorem Lp:ti Tryz.prog 231=some ⟨.struct [(0,22,false),(1,4,false),(2,4,false),(3,4,false)],4,32,.agg [.slice .nil 1 [],.bool false,.bool false,.bool false]⟩:=by kernel_rfl
theorem He:ti Tryz.prog 229=some ⟨.ptr 231,1,8,.nilp⟩:=by kernel_rfl
attribute [go_sem] Lp He
end Go.AL
