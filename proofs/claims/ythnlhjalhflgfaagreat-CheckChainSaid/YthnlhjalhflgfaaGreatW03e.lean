/- Lemmas of the proof; no condition. -/
import Derived.Test.YthnlhjalhflgfaaGreatW03c
set_option linter.all false
set_option maxRecDepth 10000
set_option maxHeartbeats 32000000
open List renaming take_zero → yar, nil_append → yak, drop_eq_nil_of_le → ybf, append_nil → yaj, length_cons → yaz, length_nil → yba, take_of_length_le → ybc, drop_append → ybd, take_append → ybe, length_map → ybb
open Go Go.AL Go.Proofs
namespace Go.AL
theorem zw:ti Tryz.prog 253=some ⟨.struct [(0,3,false),(1,250,false),(2,251,false)],3,24,.agg [.int .i64 0,.nilf,.nilf]⟩:=by kernel_rfl
theorem Eo:ti Tryz.prog 250=some ⟨.func,1,8,.nilf⟩:=by kernel_rfl
theorem Ey:ti Tryz.prog 251=some ⟨.func,1,8,.nilf⟩:=by kernel_rfl
theorem zF:ti Tryz.prog 287=some ⟨.struct [(0,3,false),(1,284,false),(2,285,false)],3,24,.agg [.int .i64 0,.nilf,.nilf]⟩:=by kernel_rfl
theorem Fd:ti Tryz.prog 284=some ⟨.func,1,8,.nilf⟩:=by kernel_rfl
theorem EO:ti Tryz.prog 285=some ⟨.func,1,8,.nilf⟩:=by kernel_rfl
theorem Au:ti Tryz.prog 333=some ⟨.struct [(0,3,false),(1,330,false),(2,331,false)],3,24,.agg [.int .i64 0,.nilf,.nilf]⟩:=by kernel_rfl
theorem AG:ti Tryz.prog 330=some ⟨.func,1,8,.nilf⟩:=by kernel_rfl
theorem Fu:ti Tryz.prog 331=some ⟨.func,1,8,.nilf⟩:=by kernel_rfl
theorem Aq:ti Tryz.prog 128=some ⟨.struct [(0,3,false),(1,125,false),(2,126,false)],3,24,.agg [.int .i64 0,.nilf,.nilf]⟩:=by kernel_rfl
theorem Ce:ti Tryz.prog 125=some ⟨.func,1,8,.nilf⟩:=by kernel_rfl
theorem Fy:ti Tryz.prog 126=some ⟨.func,1,8,.nilf⟩:=by kernel_rfl
theorem yS:ti Tryz.prog 260=some ⟨.struct [(0,3,false),(1,257,false),(2,258,false)],3,24,.agg [.int .i64 0,.nilf,.nilf]⟩:=by kernel_rfl
theorem Ef:ti Tryz.prog 257=some ⟨.func,1,8,.nilf⟩:=by kernel_rfl
theorem Df:ti Tryz.prog 258=some ⟨.func,1,8,.nilf⟩:=by kernel_rfl
attribute [go_sem] zw Eo Ey zF Fd EO Au AG Fu Aq Ce Fy yS Ef Df
theorem dm {n:Nat} {f:Fn}:AV.lt n (.func f [] []):=by rw [AV.lt];exact ⟨fun j hj=>absurd hj (by simp),fun j hj=>absurd hj (by simp)⟩
def bm (most:Int) (f r:Nat):List AV:=[.int .i64 most,.func (.func f) [] [],.func (.func r) [] []]
theorem dB {n:Nat} {most:Int} {f r:Nat}:ltL n (bm most f r):=by simp [bm,znu,znv,znf,dm]
theorem eE {α:Type} {g:α→Enc} (h1:∀ x,1≤(g x).b.length) {l:List α} {s:Enc} {m:Int} (hl:(s.add (bD g m l)).b.length≤b8):l.length≤100000000000000:=by
 have h2:=yj h1 l
 unfold bD at hl
 rw [bP,bP,bj] at hl
 omega
theorem dD {α:Type} {g:α→Enc} {l:List α} {s:Enc} {k:Nat} {x:α} (hk:k<l.length) (hx:x=l[k]) (hl:(s.add (bT g l)).b.length≤b8) :
 (s.add (bT g (l.take k))).add (g x)=s.add (bT g (l.take (k+1)))∧((s.add (bT g (l.take k))).add (g x)).b.length≤b8:=by
 have et:l.take (k+1)=l.take k++[x]:=by rw [hx,List.take_succ_eq_append_getElem hk]
 have es:(s.add (bT g (l.take k))).add (g x)=s.add (bT g (l.take (k+1))):=by rw [aI,← zu,et]
 refine ⟨es,?_⟩
 have h1:=z5 g l (k+1)
 rw [es]
 rw [bP] at hl ⊢
 omega
theorem bG {H:AHeap} {id q:Nat} {X:List AV} {Y:AObj} (hn:id≠q) (hid:id<H.nx):aF ((H.set id (.cells X)).set q Y) id=some X:=by
 unfold aF;rw [AHeap.get_set_ne _ _ hn,AHeap.get_set_same _ _ hid]
theorem ck {H:AHeap} {id q:Nat} {X o:AObj} (hn:id≠q) (h:H.get q=some o):(H.set id X).get q=some o:=by rw [AHeap.get_set_ne _ _ (fun e=>hn e.symm)];exact h
theorem cj {H:AHeap} {id q:Nat} {X Y Z:AObj}:((H.set id X).set q Y).set id Z=(H.set q Y).set id Z:=by
 unfold AHeap.set;congr 1;funext j;dsimp only;by_cases h1:j=id<;>simp [h1]
theorem eI {H:AHeap} {id q n:Nat} {b:List UInt8} {sl sf sa:Bool} {most:Int}:swH H id q ((⟨b,sl,sf,sa⟩:Enc).add (dq n most))=(H.set q (.buf 1 (b.length+(iE (n:Int) 2).length))).set id (.cells (swC q (b++iE (n:Int) 2) (sl||decide ((n:Int) > most)) sf sa)):=by
 unfold swH Enc.add dq swC
 simp only [Bool.or_false,lAq]
theorem SOn.push2 {H:AHeap} {id q:Nat} {s:Enc} (h:SOn H id q s) (x y:AObj):SOn ((H.push x).push y) id q s:=(h.push x).push y
theorem aA {H:AHeap} {id q:Nat} {s:Enc}:(swH H id q s).nx=H.nx:=ap
theorem Kc {n v:Nat}:(vv v).lt n:=by simp [vv,znr,znu,znv,znf]
theorem we {n:Nat} (x:SField):(aV x).lt n:=by simp [aV,znr,znu,znv,znf,znh]
theorem rW {n:Nat} (x:SCase):(cM x).lt n:=by simp [cM,vc,znr,znu,znv,znf]
theorem pE {n:Nat} (x:SParam):(bv x).lt n:=by simp [bv,znr,znu,znv,znf,znh]
theorem r7 {n:Nat} (x:SPrim):(cl x).lt n:=by simp [cl,vc,znr,znu,znv,znf]
theorem u1 {n:Nat} (x:SKey):(bN x).lt n:=by simp [bN,znr,znu,znv,znf,znh]
theorem wM {n:Nat} (x:SStage):(cu x).lt n:=by simp [cu,znr,znu,znv,znf]
theorem CO {n:Nat} (x:SRef):(bZ x).lt n:=by simp [bZ,znr,znu,znv,znf]
theorem ub {n:Nat} (x:SHeader):(aH x).lt n:=by simp [aH,inL,znr,znu,znv,znf,znh,aU fun _=>of_eq_true znf]
theorem vQ {n:Nat} (x:SState):(aL x).lt n:=by simp [aL,znr,znu,znv,znf,aU rW]
theorem vg {n:Nat} (x:SAction):(ax x).lt n:=by simp [ax,znr,znu,znv,znf,znh,aU pE,aU r7]
theorem pk {n:Nat} (x:SGrant):(bk x).lt n:=by simp [bk,boL,znr,znu,znv,znf,zng,aU fun _=>of_eq_true zng]
theorem wV {n:Nat} (x:STable):(az x).lt n:=by simp [az,inL,znr,znu,znv,znf,znh,aU fun _=>of_eq_true znf,aU u1,aU fun _=>Kc]
theorem y7 {n:Nat} (x:SRole):(br x).lt n:=by simp [br,inL,znr,znu,znv,znf,znh,zng,aU fun _=>of_eq_true znf,aU pk]
theorem cG {zs cs:List AV} (h:zs.length=cs.length):splice zs 0 cs=cs:=by
 rw [mb zs cs 0 (by omega),yar,yak,ybf (by omega),yaj]
theorem gY {α:Type} {P:Program} {f wf sz:Nat} {c:α→AV} {ok:α→Prop} {g:α→Enc} (hone:∀ x,1≤(g x).b.length) (hlt:∀ n x,(c x).lt n) (hag:∀ x,∃ cs,c x=.agg cs∧cs.length=sz∧bQ cs=true)
 (h:∀ (wf' sz':Nat) (c':α→AV) (ok':α→Prop) (g':α→Enc),wf'=wf→sz'=sz→c'=c→ok'=ok→g'=g→(∀ x,1≤(g' x).b.length)→(∀ n x,(c' x).lt n)→(∀ x,∃ cs,c' x=.agg cs∧cs.length=sz'∧bQ cs=true)→∀ (id:Nat) (most:Int) (r q:Nat) (s:Enc) (l:List α) (H:AHeap),SOn H id q s→(∀ a∈l,ok' a)→(s.add (bD g' most l)).b.length≤b8→ACalls P f [.ptr id 0,.agg [.int .i64 most,.func (.func wf') [] [],.func (.func r) [] []],.slice .any sz' (l.map c')] H (.ret (.tup [])) (swH H id q (s.add (bD g' most l)))):EntOk P f (Ent.effect (jc wf sz c ok g)):=by
 refine EntOk.effect fun args H K hh=>?_
 unfold jc at hh
 split at hh
 ·obtain ⟨q,s,l,⟨hW,rfl,rfl,rfl,ha,hl⟩,hK⟩:=hh
  exact ⟨_,_,hK,h _ _ _ _ _ rfl rfl rfl rfl rfl hone hlt hag _ _ _ _ _ _ _ hW ha hl⟩
 ·exact hh.elim
def yc:=eW (.int .i64) nn j9
def uJ:=jc 298 1 (.int .i64) nn j9
theorem CG:EntOk Tryz.prog 298 (Ent.effect yc):=by
 unfold yc
 refine EntOk.effect fun args H K h=>?_
 unfold eW at h
 split at h
 rotate_left
 ·exact h.elim
 rename_i id x
 obtain ⟨q,s,a,⟨hW,rfl,ha,hl⟩,hK⟩:=h
 refine ⟨_,_,hK,?_⟩
 clear hK
 have hF:=hW.facts
 have hcl0:=hW.closed (t:=s.add (j9 a))
 have hid:=glq hW.o
 have hq:=glq hW.bu
 refine ACalls.fW ak (tCq fe tNq) Tryz.func298 [] (by rw [ap];omega) (T:=aj []) (h:=fun hcl hlt=>?_)
 clear hlt
 have hcl1:=hcl0 hcl
 unfold j9 at hl hcl1 ⊢
 have hl1:=hl
 simp only [go_sem,ap,aA]
 refine dJ (.inr rfl) hW hl1 ?_
 try simp only [go_sem,ap,aA]
 exact Z15
theorem n9:EntOk Tryz.prog 197 (Ent.effect uJ):=by
 unfold uJ
 refine EntOk.effect fun args H K h=>?_
 unfold jc at h
 split at h
 rotate_left
 ·exact h.elim
 rename_i id most f' r sz' xs
 obtain ⟨q,s,l,⟨hW,rfl,rfl,rfl,ha,hl⟩,hK⟩:=h
 refine ⟨_,_,hK,?_⟩
 clear hK
 have hF:=hW.facts
 have hcl0:=fun t=>hW.closed (t:=t)
 have hid:=glq hW.o
 have hq:=glq hW.bu
 have hll:=eE F9 hl
 obtain ⟨b,sl,sf,sa⟩:=s
 have hne:=b7 hid
 have hneq:=b7 hq
 have n1:(id=q)=False:=eq_false hW.ne
 have n2:(q=id)=False:=eq_false fun e=>hW.ne e.symm
 have hcs:=aq hW.o
 have hb0:=hW.bu
 have hi0:=hW.o
 have hnn:=hW.ne
 have hlb:b.length≤b8:=aX hl
 rw [bj] at hlb
 dsimp only at hcs hb0 hi0 hlb
 have lw2:=cr (l.length:Int) 2
 refine ACalls.fW ak (tCq bJ (tCq CG tNq)) Tryz.func197 [] (by rw [ap];omega) (T:=aj [(2,[[],[],[],[],[],[],[],[],[4,7],[],[],[4,7]])]) (h:=fun hcl hlt=>?_)
 clear hlt
 have hcl1:=fun t=>hcl0 t hcl
 have hcm:=fun cs=>@bp H id cs hid
 have hA:=fun X Y=>@bG H id q X Y hnn hid
 have hB:=fun X=>ck (X:=X) hnn hb0
 have eh:=fun X Y Z=>@cj H id q X Y Z
 have hL2:sl=true→(sl||decide ((l.length:Int) > most))=true:=fun h=>by rw [h,Bool.true_or]
 have hL3:sl=false→decide ((l.length:Int) > most)=(sl||decide ((l.length:Int) > most)):=fun h=>by rw [h,Bool.false_or]
 have hst:=eI (H:=H) (id:=id) (q:=q) (b:=b) (sl:=sl) (sf:=sf) (sa:=sa) (n:=l.length) (most:=most)
 have hS1:=hW.next ((⟨b,sl,sf,sa⟩:Enc).add (dq l.length most))
 have htot:(((⟨b,sl,sf,sa⟩:Enc).add (dq l.length most)).add (bT j9 l))=(⟨b,sl,sf,sa⟩:Enc).add (bD j9 most l):=by rw [aI];rfl
 rw [← htot] at hl ⊢
 generalize ((⟨b,sl,sf,sa⟩:Enc).add (dq l.length most))=s1 at *
 generalize (sl||decide ((l.length:Int) > most))=L at *
 have hlv:∀ n,(AV.slice .any 1 (l.map (.int .i64))).lt n:=fun n=>aU (fun x=>of_eq_true znf)
 have hlc:=fun n=>@dB n most 298 r
 cases sl
 case' true =>
  rw [hL2 rfl] at hst
  simp only [go_sem,byq,hne,hneq,n1,n2,hcs,hcm,hA,hB,eh,hi0,hb0,aN,ybb]
 case' false =>
  simp only [go_sem,byq,hne,hneq,n1,n2,hcs,hcm,hA,hB,eh,hi0,hb0,aN,ybb,hL3 rfl]
 all_goals
  (repeat with_reducible refine And.intro (by first|assumption|decide|omega|exact ⟨by omega,by omega⟩) ?_)
  refine ay (A:=Nat) (fun k=>[(0,.ptr id 0),(4,.ptr H.nx 0),(33,.slice .any 1 (l.map (.int .i64))),(34,.int .i64 (l.length:Int)),(35,.int .i64 (k:Int))])
   (fun k=>(swH H id q (s1.add (bT j9 (l.take k)))).push (.cells (bm most 298 r))) (fun k=>k≤l.length) (fun k=>l.length - k) 0 (by omega) ?_ fun k hk=>?_
  ·rw [yar,bT,dr,hst]
   refine ⟨by simp only [zkq,zkv,zle,zlf,ap];omega,by repeat first|exact .refl _|refine .push ?_ _,?_,?_,?_⟩
   ·rw [← hst];exact ae (hcl1 _) (hlc _)
   ·simp [ltF,zle,zlf,znn,znf,hlv]
    omega
   ·simp [ba,wk2,wk1,wkM,Fr.get]
  simp only [go_sem]
  refine ah (fun hc=>?_) (fun hc=>?_)
  ·have hk':k<l.length:=by simp at hc;omega
   obtain ⟨x,hx⟩:∃ x,x=l[k]:=⟨_,rfl⟩
   have hg:=cV (f:=.int .i64) (l:=l) (k:=k) (x:=x) (by rw [gQq hk',hx])
   have e5:=Yk5 k
   have hxo:=ha x (by rw [hx];exact gMq hk')
   obtain ⟨es,hlk⟩:=dD (g:=j9) hk' hx hl
   have hSk:=hW.next (s1.add (bT j9 (l.take k)))
   simp only [go_sem,iNq,ybb,hg,ap,bm,bj]
   refine ⟨by omega,?_⟩
   refine mZ (c:=.int .i64) hxo (hSk.push _) hlk ?_
   rw [hF.p1,es]
   simp only [go_sem,e5]
   refine ⟨k+1,by omega,by omega,by simp only [zkq,zkv,zle,ap];omega,by repeat first|exact .refl _|refine .push ?_ _,ae (hcl1 _) (hlc _),?_,?_⟩
   ·simp [ltF,zle,ap,znn,znf,hlv]
    omega
   ·simp [ba,wk2,wk1,wkM,Fr.get]
  ·have hk':k=l.length:=by simp at hc;omega
   subst hk'
   rw [List.take_length]
   simp only [go_sem]
   refine ⟨?_,by repeat first|exact .refl _|refine .push ?_ _,hcl1 _,?_⟩
   ·simp [wk,wk2,wk1,af]
   ·simp [zns,znv]
def cZ:List AV→AHeap→(AV→Prop)→Prop
 |[.int .i64 most],_,K=>K (.agg (bm most 298 299))
 |_,_,_=>False
theorem p5:EntOk Tryz.prog 198 (Ent.pure cZ):=by
 refine Ype fun _ H K h=>?_
 unfold cZ at h
 split at h
 rotate_left
 ·exact h.elim
 refine ⟨_,h,?_⟩
 refine ACalls.fW ak tNq Tryz.func198 [.cell 2 253] (nrq _) (T:=aj []) (h:=fun hcl hlt=>?_)
 clear hlt
 simp only [go_sem,bm]
 exact Z16
def uD:=jc 303 2 (vv) my i8
theorem y0:EntOk Tryz.prog 217 (Ent.effect uD):=by
 unfold uD
 refine EntOk.effect fun args H K h=>?_
 unfold jc at h
 split at h
 rotate_left
 ·exact h.elim
 rename_i id most f' r sz' xs
 obtain ⟨q,s,l,⟨hW,rfl,rfl,rfl,ha,hl⟩,hK⟩:=h
 refine ⟨_,_,hK,?_⟩
 clear hK
 have hF:=hW.facts
 have hcl0:=fun t=>hW.closed (t:=t)
 have hid:=glq hW.o
 have hq:=glq hW.bu
 have hll:=eE CF hl
 obtain ⟨b,sl,sf,sa⟩:=s
 have hne:=b7 hid
 have hneq:=b7 hq
 have n1:(id=q)=False:=eq_false hW.ne
 have n2:(q=id)=False:=eq_false fun e=>hW.ne e.symm
 have hcs:=aq hW.o
 have hb0:=hW.bu
 have hi0:=hW.o
 have hnn:=hW.ne
 have hlb:b.length≤b8:=aX hl
 rw [bj] at hlb
 dsimp only at hcs hb0 hi0 hlb
 have lw2:=cr (l.length:Int) 2
 refine ACalls.fW ak (tCq bJ (tCq sI tNq)) Tryz.func217 [] (by rw [ap];omega) (T:=aj [(2,[[],[],[],[],[],[],[],[],[4,7],[],[],[4,7]])]) (h:=fun hcl hlt=>?_)
 clear hlt
 have hcl1:=fun t=>hcl0 t hcl
 have hcm:=fun cs=>@bp H id cs hid
 have hA:=fun X Y=>@bG H id q X Y hnn hid
 have hB:=fun X=>ck (X:=X) hnn hb0
 have eh:=fun X Y Z=>@cj H id q X Y Z
 have hL2:sl=true→(sl||decide ((l.length:Int) > most))=true:=fun h=>by rw [h,Bool.true_or]
 have hL3:sl=false→decide ((l.length:Int) > most)=(sl||decide ((l.length:Int) > most)):=fun h=>by rw [h,Bool.false_or]
 have hst:=eI (H:=H) (id:=id) (q:=q) (b:=b) (sl:=sl) (sf:=sf) (sa:=sa) (n:=l.length) (most:=most)
 have hS1:=hW.next ((⟨b,sl,sf,sa⟩:Enc).add (dq l.length most))
 have htot:(((⟨b,sl,sf,sa⟩:Enc).add (dq l.length most)).add (bT i8 l))=(⟨b,sl,sf,sa⟩:Enc).add (bD i8 most l):=by rw [aI];rfl
 rw [← htot] at hl ⊢
 generalize ((⟨b,sl,sf,sa⟩:Enc).add (dq l.length most))=s1 at *
 generalize (sl||decide ((l.length:Int) > most))=L at *
 have hlv:∀ n,(AV.slice .any 2 (l.map (vv))).lt n:=fun n=>aU (fun x=>Kc)
 have hlc:=fun n=>@dB n most 303 r
 cases sl
 case' true =>
  rw [hL2 rfl] at hst
  simp only [go_sem,byq,hne,hneq,n1,n2,hcs,hcm,hA,hB,eh,hi0,hb0,aN,ybb]
 case' false =>
  simp only [go_sem,byq,hne,hneq,n1,n2,hcs,hcm,hA,hB,eh,hi0,hb0,aN,ybb,hL3 rfl]
 all_goals
  (repeat with_reducible refine And.intro (by first|assumption|decide|omega|exact ⟨by omega,by omega⟩) ?_)
  refine ay (A:=Nat) (fun k=>[(0,.ptr id 0),(4,.ptr H.nx 0),(33,.slice .any 2 (l.map (vv))),(34,.int .i64 (l.length:Int)),(35,.int .i64 (k:Int))])
   (fun k=>(swH H id q (s1.add (bT i8 (l.take k)))).push (.cells (bm most 303 r))) (fun k=>k≤l.length) (fun k=>l.length - k) 0 (by omega) ?_ fun k hk=>?_
  ·rw [yar,bT,dr,hst]
   refine ⟨by simp only [zkq,zkv,zle,zlf,ap];omega,by repeat first|exact .refl _|refine .push ?_ _,?_,?_,?_⟩
   ·rw [← hst];exact ae (hcl1 _) (hlc _)
   ·simp [ltF,zle,zlf,znn,znf,hlv]
    omega
   ·simp [ba,wk2,wk1,wkM,Fr.get]
  simp only [go_sem]
  refine ah (fun hc=>?_) (fun hc=>?_)
  ·have hk':k<l.length:=by simp at hc;omega
   obtain ⟨x,hx⟩:∃ x,x=l[k]:=⟨_,rfl⟩
   have hg:=cV (f:=vv) (l:=l) (k:=k) (x:=x) (by rw [gQq hk',hx])
   have e5:=Yk5 k
   have hxo:=ha x (by rw [hx];exact gMq hk')
   obtain ⟨es,hlk⟩:=dD (g:=i8) hk' hx hl
   have hSk:=hW.next (s1.add (bT i8 (l.take k)))
   simp only [go_sem,iNq,ybb,hg,ap,vv,bm,bj]
   refine ⟨by omega,?_⟩
   refine yz hxo (hSk.push2 _ _) hlk ?_
   rw [hF.p2,es]
   simp only [go_sem,e5]
   refine ⟨k+1,by omega,by omega,by simp only [zkq,zkv,zle,ap];omega,by repeat first|exact .refl _|refine .push ?_ _,ae (hcl1 _) (hlc _),?_,?_⟩
   ·simp [ltF,zle,ap,znn,znf,hlv]
    omega
   ·simp [ba,wk2,wk1,wkM,Fr.get]
  ·have hk':k=l.length:=by simp at hc;omega
   subst hk'
   rw [List.take_length]
   simp only [go_sem]
   refine ⟨?_,by repeat first|exact .refl _|refine .push ?_ _,hcl1 _,?_⟩
   ·simp [wk,wk2,wk1,af]
   ·simp [zns,znv]
def gu:List AV→AHeap→(AV→Prop)→Prop
 |[],_,K=>K (.agg (bm 4 303 305))
 |_,_,_=>False
theorem CK:EntOk Tryz.prog 218 (Ent.pure gu):=by
 refine Ype fun _ H K h=>?_
 unfold gu at h
 split at h
 rotate_left
 ·exact h.elim
 refine ⟨_,h,?_⟩
 refine ACalls.fW ak tNq Tryz.func218 [.cell 0 287] (nrq _) (T:=aj []) (h:=fun hcl hlt=>?_)
 clear hlt
 simp only [go_sem,bm]
 exact Z16
def t6:=jc 227 1 (.bool) nn iH
theorem zZ:EntOk Tryz.prog 313 (Ent.effect t6):=by
 unfold t6
 refine EntOk.effect fun args H K h=>?_
 unfold jc at h
 split at h
 rotate_left
 ·exact h.elim
 rename_i id most f' r sz' xs
 obtain ⟨q,s,l,⟨hW,rfl,rfl,rfl,ha,hl⟩,hK⟩:=h
 refine ⟨_,_,hK,?_⟩
 clear hK
 have hF:=hW.facts
 have hcl0:=fun t=>hW.closed (t:=t)
 have hid:=glq hW.o
 have hq:=glq hW.bu
 have hll:=eE Cg hl
 obtain ⟨b,sl,sf,sa⟩:=s
 have hne:=b7 hid
 have hneq:=b7 hq
 have n1:(id=q)=False:=eq_false hW.ne
 have n2:(q=id)=False:=eq_false fun e=>hW.ne e.symm
 have hcs:=aq hW.o
 have hb0:=hW.bu
 have hi0:=hW.o
 have hnn:=hW.ne
 have hlb:b.length≤b8:=aX hl
 rw [bj] at hlb
 dsimp only at hcs hb0 hi0 hlb
 have lw2:=cr (l.length:Int) 2
 refine ACalls.fW ak (tCq bJ (tCq tx tNq)) Tryz.func313 [] (by rw [ap];omega) (T:=aj [(2,[[],[],[],[],[],[],[],[],[4,7],[],[],[4,7]])]) (h:=fun hcl hlt=>?_)
 clear hlt
 have hcl1:=fun t=>hcl0 t hcl
 have hcm:=fun cs=>@bp H id cs hid
 have hA:=fun X Y=>@bG H id q X Y hnn hid
 have hB:=fun X=>ck (X:=X) hnn hb0
 have eh:=fun X Y Z=>@cj H id q X Y Z
 have hL2:sl=true→(sl||decide ((l.length:Int) > most))=true:=fun h=>by rw [h,Bool.true_or]
 have hL3:sl=false→decide ((l.length:Int) > most)=(sl||decide ((l.length:Int) > most)):=fun h=>by rw [h,Bool.false_or]
 have hst:=eI (H:=H) (id:=id) (q:=q) (b:=b) (sl:=sl) (sf:=sf) (sa:=sa) (n:=l.length) (most:=most)
 have hS1:=hW.next ((⟨b,sl,sf,sa⟩:Enc).add (dq l.length most))
 have htot:(((⟨b,sl,sf,sa⟩:Enc).add (dq l.length most)).add (bT iH l))=(⟨b,sl,sf,sa⟩:Enc).add (bD iH most l):=by rw [aI];rfl
 rw [← htot] at hl ⊢
 generalize ((⟨b,sl,sf,sa⟩:Enc).add (dq l.length most))=s1 at *
 generalize (sl||decide ((l.length:Int) > most))=L at *
 have hlv:∀ n,(AV.slice .any 1 (l.map (.bool))).lt n:=fun n=>aU (fun x=>of_eq_true zng)
 have hlc:=fun n=>@dB n most 227 r
 cases sl
 case' true =>
  rw [hL2 rfl] at hst
  simp only [go_sem,byq,hne,hneq,n1,n2,hcs,hcm,hA,hB,eh,hi0,hb0,aN,ybb]
 case' false =>
  simp only [go_sem,byq,hne,hneq,n1,n2,hcs,hcm,hA,hB,eh,hi0,hb0,aN,ybb,hL3 rfl]
 all_goals
  (repeat with_reducible refine And.intro (by first|assumption|decide|omega|exact ⟨by omega,by omega⟩) ?_)
  refine ay (A:=Nat) (fun k=>[(0,.ptr id 0),(4,.ptr H.nx 0),(33,.slice .any 1 (l.map (.bool))),(34,.int .i64 (l.length:Int)),(35,.int .i64 (k:Int))])
   (fun k=>(swH H id q (s1.add (bT iH (l.take k)))).push (.cells (bm most 227 r))) (fun k=>k≤l.length) (fun k=>l.length - k) 0 (by omega) ?_ fun k hk=>?_
  ·rw [yar,bT,dr,hst]
   refine ⟨by simp only [zkq,zkv,zle,zlf,ap];omega,by repeat first|exact .refl _|refine .push ?_ _,?_,?_,?_⟩
   ·rw [← hst];exact ae (hcl1 _) (hlc _)
   ·simp [ltF,zle,zlf,znn,znf,hlv]
    omega
   ·simp [ba,wk2,wk1,wkM,Fr.get]
  simp only [go_sem]
  refine ah (fun hc=>?_) (fun hc=>?_)
  ·have hk':k<l.length:=by simp at hc;omega
   obtain ⟨x,hx⟩:∃ x,x=l[k]:=⟨_,rfl⟩
   have hg:=cV (f:=.bool) (l:=l) (k:=k) (x:=x) (by rw [gQq hk',hx])
   have e5:=Yk5 k
   have hxo:=ha x (by rw [hx];exact gMq hk')
   obtain ⟨es,hlk⟩:=dD (g:=iH) hk' hx hl
   have hSk:=hW.next (s1.add (bT iH (l.take k)))
   simp only [go_sem,iNq,ybb,hg,ap,bm,bj]
   refine ⟨by omega,?_⟩
   refine xm (hSk.push _) hlk ?_
   rw [hF.p1,es]
   simp only [go_sem,e5]
   refine ⟨k+1,by omega,by omega,by simp only [zkq,zkv,zle,ap];omega,by repeat first|exact .refl _|refine .push ?_ _,ae (hcl1 _) (hlc _),?_,?_⟩
   ·simp [ltF,zle,ap,znn,znf,hlv]
    omega
   ·simp [ba,wk2,wk1,wkM,Fr.get]
  ·have hk':k=l.length:=by simp at hc;omega
   subst hk'
   rw [List.take_length]
   simp only [go_sem]
   refine ⟨?_,by repeat first|exact .refl _|refine .push ?_ _,hcl1 _,?_⟩
   ·simp [wk,wk2,wk1,af]
   ·simp [zns,znv]
def jZ:List AV→AHeap→(AV→Prop)→Prop
 |[],_,K=>K (.agg (bm 4 227 230))
 |_,_,_=>False
theorem Dj:EntOk Tryz.prog 314 (Ent.pure jZ):=by
 refine Ype fun _ H K h=>?_
 unfold jZ at h
 split at h
 rotate_left
 ·exact h.elim
 refine ⟨_,h,?_⟩
 refine ACalls.fW ak tNq Tryz.func314 [.cell 0 333] (nrq _) (T:=aj []) (h:=fun hcl hlt=>?_)
 clear hlt
 simp only [go_sem,bm]
 exact Z16
def ym:=eW (aV) sC ju
def Dc:=jc 191 3 (aV) sC ju
theorem BB:EntOk Tryz.prog 191 (Ent.effect ym):=by
 unfold ym
 refine EntOk.effect fun args H K h=>?_
 unfold eW at h
 split at h
 rotate_left
 ·exact h.elim
 rename_i id x
 obtain ⟨q,s,a,⟨hW,rfl,ha,hl⟩,hK⟩:=h
 refine ⟨_,_,hK,?_⟩
 clear hK
 have hF:=hW.facts
 have hcl0:=hW.closed (t:=s.add (ju a))
 have hid:=glq hW.o
 have hq:=glq hW.bu
 refine ACalls.fW ak (tCq fe (tCq km tNq)) Tryz.func191 [] (by rw [ap];omega) (T:=aj []) (h:=fun hcl hlt=>?_)
 clear hlt
 have hcl1:=hcl0 hcl
 unfold ju at hl hcl1 ⊢
 rw [← aI,← aI] at hl hcl1 ⊢
 have hl3:=hl
 have hl2:=aX hl3
 have hl1:=aX hl2
 simp only [go_sem,aV,ap,aA]
 refine dJ (.inr rfl) (hW.push _) hl1 ?_
 rw [hF.p0]
 simp only [go_sem,aV,ap,aA]
 refine mN (ha) ((hW.next _).push _) hl2 ?_
 rw [hF.p1]
 simp only [go_sem,aV,ap,aA]
 refine dJ (.inl rfl) ((hW.next _).push _) hl3 ?_
 rw [hF.p1]
 try simp only [go_sem,aV,ap,aA]
 exact Z15
theorem zU:EntOk Tryz.prog 59 (Ent.effect Dc):=gY zC (fun _ x=>we x) (fun _=>⟨_,rfl,rfl,rfl⟩) fun wf sz c ok g ew es ec eo eg hone hlt' hag id most r q s l H hW ha hl=>by
 refine ACalls.fW ak (tCq bJ (tCq BB tNq)) Tryz.func59 [] (by rw [ap];omega) (T:=aj [(2,[[],[],[],[],[],[],[],[],[4,7],[],[],[4,7]])]) (h:=fun hcl hlt=>?_)
 have hF:=hW.facts
 have hcl1:=fun t=>hW.closed (t:=t) hcl
 have hid:=glq hW.o
 have hq:=glq hW.bu
 have hll:=eE hone hl
 obtain ⟨b,sl,sf,sa⟩:=s
 have hne:=b7 hid
 have hneq:=b7 hq
 have n1:(id=q)=False:=eq_false hW.ne
 have n2:(q=id)=False:=eq_false fun e=>hW.ne e.symm
 have hcs:=aq hW.o
 have hb0:=hW.bu
 have hi0:=hW.o
 have hnn:=hW.ne
 have hlb:b.length≤b8:=aX hl
 rw [bj] at hlb
 dsimp only at hcs hb0 hi0 hlb
 have lw2:=cr (l.length:Int) 2
 clear hlt
 have hcm:=fun cs=>@bp H id cs hid
 have hA:=fun X Y=>@bG H id q X Y hnn hid
 have hB:=fun X=>ck (X:=X) hnn hb0
 have eh:=fun X Y Z=>@cj H id q X Y Z
 have hL2:sl=true→(sl||decide ((l.length:Int) > most))=true:=fun h=>by rw [h,Bool.true_or]
 have hL3:sl=false→decide ((l.length:Int) > most)=(sl||decide ((l.length:Int) > most)):=fun h=>by rw [h,Bool.false_or]
 have hst:=eI (H:=H) (id:=id) (q:=q) (b:=b) (sl:=sl) (sf:=sf) (sa:=sa) (n:=l.length) (most:=most)
 have hS1:=hW.next ((⟨b,sl,sf,sa⟩:Enc).add (dq l.length most))
 have htot:(((⟨b,sl,sf,sa⟩:Enc).add (dq l.length most)).add (bT g l))=(⟨b,sl,sf,sa⟩:Enc).add (bD g most l):=by rw [aI];rfl
 rw [← htot] at hl ⊢
 generalize ((⟨b,sl,sf,sa⟩:Enc).add (dq l.length most))=s1 at *
 generalize (sl||decide ((l.length:Int) > most))=L at *
 have hlv:∀ n,(AV.slice .any sz (l.map c)).lt n:=fun n=>aU (hlt' n)
 have hlc:=fun n=>@dB n most wf r
 cases sl
 case' true =>
  rw [hL2 rfl] at hst
  simp only [go_sem,byq,hne,hneq,n1,n2,hcs,hcm,hA,hB,eh,hi0,hb0,aN,ybb]
 case' false =>
  simp only [go_sem,byq,hne,hneq,n1,n2,hcs,hcm,hA,hB,eh,hi0,hb0,aN,ybb,hL3 rfl]
 all_goals
  (repeat with_reducible refine And.intro (by first|assumption|decide|omega|exact ⟨by omega,by omega⟩) ?_)
  refine ay (A:=Nat) (fun k=>[(0,.ptr id 0),(4,.ptr H.nx 0),(33,.slice .any sz (l.map c)),(34,.int .i64 (l.length:Int)),(35,.int .i64 (k:Int))])
   (fun k=>(swH H id q (s1.add (bT g (l.take k)))).push (.cells (bm most wf r))) (fun k=>k≤l.length) (fun k=>l.length - k) 0 (by omega) ?_ fun k hk=>?_
  ·rw [yar,bT,dr,hst]
   refine ⟨by simp only [zkq,zkv,zle,zlf,ap];omega,by repeat first|exact .refl _|refine .push ?_ _,?_,?_,?_⟩
   ·rw [← hst];exact ae (hcl1 _) (hlc _)
   ·simp [ltF,zle,zlf,znn,znf,hlv]
    omega
   ·simp [ba,wk2,wk1,wkM,Fr.get]
  simp only [go_sem]
  refine ah (fun hc=>?_) (fun hc=>?_)
  ·have hk':k<l.length:=by simp at hc;omega
   obtain ⟨x,hx⟩:∃ x,x=l[k]:=⟨_,rfl⟩
   have hg:=cV (f:=c) (l:=l) (k:=k) (x:=x) (by rw [gQq hk',hx])
   have e5:=Yk5 k
   have hxo:=ha x (by rw [hx];exact gMq hk')
   obtain ⟨es',hlk⟩:=dD (g:=g) hk' hx hl
   have hSk:=hW.next (s1.add (bT g (l.take k)))
   obtain ⟨cs,hcc,hcl3,hall⟩:=hag x
   have hsp:∀ zs:List AV,zs.length=sz→splice zs 0 cs=cs:=fun zs hz=>cG (hz.trans hcl3.symm)
   have hts:List.take sz cs=cs:=ybc (by omega)
   rw [hcc] at hg
   clear hag
   subst ew es ec eo eg
   simp only [go_sem,iNq,ybb,hg,hcl3,hts,hall,hsp,if_true,yaz,yba,ap,bm,bj]
   refine ⟨by omega,?_⟩
   rw [← hcc]
   refine mZ hxo (hSk.push2 _ _) hlk ?_
   rw [hF.p2,es']
   simp only [go_sem,e5]
   refine ⟨k+1,by omega,by omega,by simp only [zkq,zkv,zle,ap];omega,by repeat first|exact .refl _|refine .push ?_ _,ae (hcl1 _) (hlc _),?_,?_⟩
   ·simp [ltF,zle,ap,znn,znf,hlv]
    omega
   ·simp [ba,wk2,wk1,wkM,Fr.get]
  ·have hk':k=l.length:=by simp at hc;omega
   subst hk'
   rw [List.take_length]
   simp only [go_sem]
   refine ⟨?_,by repeat first|exact .refl _|refine .push ?_ _,hcl1 _,?_⟩
   ·simp [wk,wk2,wk1,af]
   ·simp [zns,znv]
def fQ:List AV→AHeap→(AV→Prop)→Prop
 |[],_,K=>K (.agg (bm 32 191 193))
 |_,_,_=>False
theorem D7:EntOk Tryz.prog 60 (Ent.pure fQ):=by
 refine Ype fun _ H K h=>?_
 unfold fQ at h
 split at h
 rotate_left
 ·exact h.elim
 refine ⟨_,h,?_⟩
 refine ACalls.fW ak tNq Tryz.func60 [.cell 0 128] (nrq _) (T:=aj []) (h:=fun hcl hlt=>?_)
 clear hlt
 simp only [go_sem,bm]
 exact Z16
def yd:=eW (cM) ql m9
def Dv:=jc 302 5 (cM) ql m9
theorem Ct:EntOk Tryz.prog 302 (Ent.effect yd):=by
 unfold yd
 refine EntOk.effect fun args H K h=>?_
 unfold eW at h
 split at h
 rotate_left
 ·exact h.elim
 rename_i id x
 obtain ⟨q,s,a,⟨hW,rfl,ha,hl⟩,hK⟩:=h
 refine ⟨_,_,hK,?_⟩
 clear hK
 have hF:=hW.facts
 have hcl0:=hW.closed (t:=s.add (m9 a))
 have hid:=glq hW.o
 have hq:=glq hW.bu
 refine ACalls.fW ak (tCq sI (tCq fe tNq)) Tryz.func302 [] (by rw [ap];omega) (T:=aj []) (h:=fun hcl hlt=>?_)
 clear hlt
 have hcl1:=hcl0 hcl
 unfold m9 at hl hcl1 ⊢
 rw [← aI,← aI] at hl hcl1 ⊢
 have hl3:=hl
 have hl2:=aX hl3
 have hl1:=aX hl2
 simp only [go_sem,cM,vc,ap,aA]
 refine yz (ha.1) (hW.push _) hl1 ?_
 rw [hF.p0]
 simp only [go_sem,cM,vc,ap,aA]
 refine yz (ha.2) ((hW.next _).push _) hl2 ?_
 rw [hF.p1]
 simp only [go_sem,cM,vc,ap,aA]
 refine dJ (.inr rfl) ((hW.next _).push _) hl3 ?_
 rw [hF.p1]
 try simp only [go_sem,cM,vc,ap,aA]
 exact Z15
theorem zQ:EntOk Tryz.prog 202 (Ent.effect Dv):=gY Fb (fun _ x=>rW x) (fun _=>⟨_,rfl,rfl,rfl⟩) fun wf sz c ok g ew es ec eo eg hone hlt' hag id most r q s l H hW ha hl=>by
 refine ACalls.fW ak (tCq bJ (tCq Ct tNq)) Tryz.func202 [] (by rw [ap];omega) (T:=aj [(2,[[],[],[],[],[],[],[],[],[4,7],[],[],[4,7]])]) (h:=fun hcl hlt=>?_)
 have hF:=hW.facts
 have hcl1:=fun t=>hW.closed (t:=t) hcl
 have hid:=glq hW.o
 have hq:=glq hW.bu
 have hll:=eE hone hl
 obtain ⟨b,sl,sf,sa⟩:=s
 have hne:=b7 hid
 have hneq:=b7 hq
 have n1:(id=q)=False:=eq_false hW.ne
 have n2:(q=id)=False:=eq_false fun e=>hW.ne e.symm
 have hcs:=aq hW.o
 have hb0:=hW.bu
 have hi0:=hW.o
 have hnn:=hW.ne
 have hlb:b.length≤b8:=aX hl
 rw [bj] at hlb
 dsimp only at hcs hb0 hi0 hlb
 have lw2:=cr (l.length:Int) 2
 clear hlt
 have hcm:=fun cs=>@bp H id cs hid
 have hA:=fun X Y=>@bG H id q X Y hnn hid
 have hB:=fun X=>ck (X:=X) hnn hb0
 have eh:=fun X Y Z=>@cj H id q X Y Z
 have hL2:sl=true→(sl||decide ((l.length:Int) > most))=true:=fun h=>by rw [h,Bool.true_or]
 have hL3:sl=false→decide ((l.length:Int) > most)=(sl||decide ((l.length:Int) > most)):=fun h=>by rw [h,Bool.false_or]
 have hst:=eI (H:=H) (id:=id) (q:=q) (b:=b) (sl:=sl) (sf:=sf) (sa:=sa) (n:=l.length) (most:=most)
 have hS1:=hW.next ((⟨b,sl,sf,sa⟩:Enc).add (dq l.length most))
 have htot:(((⟨b,sl,sf,sa⟩:Enc).add (dq l.length most)).add (bT g l))=(⟨b,sl,sf,sa⟩:Enc).add (bD g most l):=by rw [aI];rfl
 rw [← htot] at hl ⊢
 generalize ((⟨b,sl,sf,sa⟩:Enc).add (dq l.length most))=s1 at *
 generalize (sl||decide ((l.length:Int) > most))=L at *
 have hlv:∀ n,(AV.slice .any sz (l.map c)).lt n:=fun n=>aU (hlt' n)
 have hlc:=fun n=>@dB n most wf r
 cases sl
 case' true =>
  rw [hL2 rfl] at hst
  simp only [go_sem,byq,hne,hneq,n1,n2,hcs,hcm,hA,hB,eh,hi0,hb0,aN,ybb]
 case' false =>
  simp only [go_sem,byq,hne,hneq,n1,n2,hcs,hcm,hA,hB,eh,hi0,hb0,aN,ybb,hL3 rfl]
 all_goals
  (repeat with_reducible refine And.intro (by first|assumption|decide|omega|exact ⟨by omega,by omega⟩) ?_)
  refine ay (A:=Nat) (fun k=>[(0,.ptr id 0),(4,.ptr H.nx 0),(33,.slice .any sz (l.map c)),(34,.int .i64 (l.length:Int)),(35,.int .i64 (k:Int))])
   (fun k=>(swH H id q (s1.add (bT g (l.take k)))).push (.cells (bm most wf r))) (fun k=>k≤l.length) (fun k=>l.length - k) 0 (by omega) ?_ fun k hk=>?_
  ·rw [yar,bT,dr,hst]
   refine ⟨by simp only [zkq,zkv,zle,zlf,ap];omega,by repeat first|exact .refl _|refine .push ?_ _,?_,?_,?_⟩
   ·rw [← hst];exact ae (hcl1 _) (hlc _)
   ·simp [ltF,zle,zlf,znn,znf,hlv]
    omega
   ·simp [ba,wk2,wk1,wkM,Fr.get]
  simp only [go_sem]
  refine ah (fun hc=>?_) (fun hc=>?_)
  ·have hk':k<l.length:=by simp at hc;omega
   obtain ⟨x,hx⟩:∃ x,x=l[k]:=⟨_,rfl⟩
   have hg:=cV (f:=c) (l:=l) (k:=k) (x:=x) (by rw [gQq hk',hx])
   have e5:=Yk5 k
   have hxo:=ha x (by rw [hx];exact gMq hk')
   obtain ⟨es',hlk⟩:=dD (g:=g) hk' hx hl
   have hSk:=hW.next (s1.add (bT g (l.take k)))
   obtain ⟨cs,hcc,hcl3,hall⟩:=hag x
   have hsp:∀ zs:List AV,zs.length=sz→splice zs 0 cs=cs:=fun zs hz=>cG (hz.trans hcl3.symm)
   have hts:List.take sz cs=cs:=ybc (by omega)
   rw [hcc] at hg
   clear hag
   subst ew es ec eo eg
   simp only [go_sem,iNq,ybb,hg,hcl3,hts,hall,hsp,if_true,yaz,yba,ap,bm,bj]
   refine ⟨by omega,?_⟩
   rw [← hcc]
   refine mZ hxo (hSk.push2 _ _) hlk ?_
   rw [hF.p2,es']
   simp only [go_sem,e5]
   refine ⟨k+1,by omega,by omega,by simp only [zkq,zkv,zle,ap];omega,by repeat first|exact .refl _|refine .push ?_ _,ae (hcl1 _) (hlc _),?_,?_⟩
   ·simp [ltF,zle,ap,znn,znf,hlv]
    omega
   ·simp [ba,wk2,wk1,wkM,Fr.get]
  ·have hk':k=l.length:=by simp at hc;omega
   subst hk'
   rw [List.take_length]
   simp only [go_sem]
   refine ⟨?_,by repeat first|exact .refl _|refine .push ?_ _,hcl1 _,?_⟩
   ·simp [wk,wk2,wk1,af]
   ·simp [zns,znv]
def jf:List AV→AHeap→(AV→Prop)→Prop
 |[],_,K=>K (.agg (bm 6 302 304))
 |_,_,_=>False
theorem EV:EntOk Tryz.prog 203 (Ent.pure jf):=by
 refine Ype fun _ H K h=>?_
 unfold jf at h
 split at h
 rotate_left
 ·exact h.elim
 refine ⟨_,h,?_⟩
 refine ACalls.fW ak tNq Tryz.func203 [.cell 0 260] (nrq _) (T:=aj []) (h:=fun hcl hlt=>?_)
 clear hlt
 simp only [go_sem,bm]
 exact Z16
theorem zb:ti Tryz.prog 267=some ⟨.struct [(0,3,false),(1,264,false),(2,265,false)],3,24,.agg [.int .i64 0,.nilf,.nilf]⟩:=by kernel_rfl
theorem E6:ti Tryz.prog 264=some ⟨.func,1,8,.nilf⟩:=by kernel_rfl
theorem Cx:ti Tryz.prog 265=some ⟨.func,1,8,.nilf⟩:=by kernel_rfl
theorem zp:ti Tryz.prog 273=some ⟨.struct [(0,3,false),(1,270,false),(2,271,false)],3,24,.agg [.int .i64 0,.nilf,.nilf]⟩:=by kernel_rfl
theorem BF:ti Tryz.prog 270=some ⟨.func,1,8,.nilf⟩:=by kernel_rfl
theorem EJ:ti Tryz.prog 271=some ⟨.func,1,8,.nilf⟩:=by kernel_rfl
theorem yY:ti Tryz.prog 281=some ⟨.struct [(0,3,false),(1,278,false),(2,279,false)],3,24,.agg [.int .i64 0,.nilf,.nilf]⟩:=by kernel_rfl
theorem Dp:ti Tryz.prog 278=some ⟨.func,1,8,.nilf⟩:=by kernel_rfl
theorem AO:ti Tryz.prog 279=some ⟨.func,1,8,.nilf⟩:=by kernel_rfl
theorem Ah:ti Tryz.prog 158=some ⟨.struct [(0,3,false),(1,155,false),(2,156,false)],3,24,.agg [.int .i64 0,.nilf,.nilf]⟩:=by kernel_rfl
theorem Cw:ti Tryz.prog 155=some ⟨.func,1,8,.nilf⟩:=by kernel_rfl
theorem B2:ti Tryz.prog 156=some ⟨.func,1,8,.nilf⟩:=by kernel_rfl
theorem yJ:ti Tryz.prog 170=some ⟨.struct [(0,3,false),(1,167,false),(2,168,false)],3,24,.agg [.int .i64 0,.nilf,.nilf]⟩:=by kernel_rfl
theorem BQ:ti Tryz.prog 167=some ⟨.func,1,8,.nilf⟩:=by kernel_rfl
theorem Dt:ti Tryz.prog 168=some ⟨.func,1,8,.nilf⟩:=by kernel_rfl
attribute [go_sem] zb E6 Cx zp BF EJ yY Dp AO Ah Cw B2 yJ BQ Dt
def x9:=eW (bv) sx j6
def CN:=jc 306 2 (bv) sx j6
theorem A1:EntOk Tryz.prog 306 (Ent.effect x9):=by
 unfold x9
 refine EntOk.effect fun args H K h=>?_
 unfold eW at h
 split at h
 rotate_left
 ·exact h.elim
 rename_i id x
 obtain ⟨q,s,a,⟨hW,rfl,ha,hl⟩,hK⟩:=h
 refine ⟨_,_,hK,?_⟩
 clear hK
 have hF:=hW.facts
 have hcl0:=hW.closed (t:=s.add (j6 a))
 have hid:=glq hW.o
 have hq:=glq hW.bu
 refine ACalls.fW ak (tCq km (tCq fe tNq)) Tryz.func306 [] (by rw [ap];omega) (T:=aj []) (h:=fun hcl hlt=>?_)
 clear hlt
 have hcl1:=hcl0 hcl
 unfold j6 at hl hcl1 ⊢
 rw [← aI] at hl hcl1 ⊢
 have hl2:=hl
 have hl1:=aX hl2
 simp only [go_sem,bv,ap,aA]
 refine mN (ha) (hW.push _) hl1 ?_
 rw [hF.p0]
 simp only [go_sem,bv,ap,aA]
 refine dJ (.inl rfl) ((hW.next _).push _) hl2 ?_
 rw [hF.p1]
 try simp only [go_sem,bv,ap,aA]
 exact Z15
theorem zf:EntOk Tryz.prog 207 (Ent.effect CN):=gY yN (fun _ x=>pE x) (fun _=>⟨_,rfl,rfl,rfl⟩) fun wf sz c ok g ew es ec eo eg hone hlt' hag id most r q s l H hW ha hl=>by
 refine ACalls.fW ak (tCq bJ (tCq A1 tNq)) Tryz.func207 [] (by rw [ap];omega) (T:=aj [(2,[[],[],[],[],[],[],[],[],[4,7],[],[],[4,7]])]) (h:=fun hcl hlt=>?_)
 have hF:=hW.facts
 have hcl1:=fun t=>hW.closed (t:=t) hcl
 have hid:=glq hW.o
 have hq:=glq hW.bu
 have hll:=eE hone hl
 obtain ⟨b,sl,sf,sa⟩:=s
 have hne:=b7 hid
 have hneq:=b7 hq
 have n1:(id=q)=False:=eq_false hW.ne
 have n2:(q=id)=False:=eq_false fun e=>hW.ne e.symm
 have hcs:=aq hW.o
 have hb0:=hW.bu
 have hi0:=hW.o
 have hnn:=hW.ne
 have hlb:b.length≤b8:=aX hl
 rw [bj] at hlb
 dsimp only at hcs hb0 hi0 hlb
 have lw2:=cr (l.length:Int) 2
 clear hlt
 have hcm:=fun cs=>@bp H id cs hid
 have hA:=fun X Y=>@bG H id q X Y hnn hid
 have hB:=fun X=>ck (X:=X) hnn hb0
 have eh:=fun X Y Z=>@cj H id q X Y Z
 have hL2:sl=true→(sl||decide ((l.length:Int) > most))=true:=fun h=>by rw [h,Bool.true_or]
 have hL3:sl=false→decide ((l.length:Int) > most)=(sl||decide ((l.length:Int) > most)):=fun h=>by rw [h,Bool.false_or]
 have hst:=eI (H:=H) (id:=id) (q:=q) (b:=b) (sl:=sl) (sf:=sf) (sa:=sa) (n:=l.length) (most:=most)
 have hS1:=hW.next ((⟨b,sl,sf,sa⟩:Enc).add (dq l.length most))
 have htot:(((⟨b,sl,sf,sa⟩:Enc).add (dq l.length most)).add (bT g l))=(⟨b,sl,sf,sa⟩:Enc).add (bD g most l):=by rw [aI];rfl
 rw [← htot] at hl ⊢
 generalize ((⟨b,sl,sf,sa⟩:Enc).add (dq l.length most))=s1 at *
 generalize (sl||decide ((l.length:Int) > most))=L at *
 have hlv:∀ n,(AV.slice .any sz (l.map c)).lt n:=fun n=>aU (hlt' n)
 have hlc:=fun n=>@dB n most wf r
 cases sl
 case' true =>
  rw [hL2 rfl] at hst
  simp only [go_sem,byq,hne,hneq,n1,n2,hcs,hcm,hA,hB,eh,hi0,hb0,aN,ybb]
 case' false =>
  simp only [go_sem,byq,hne,hneq,n1,n2,hcs,hcm,hA,hB,eh,hi0,hb0,aN,ybb,hL3 rfl]
 all_goals
  (repeat with_reducible refine And.intro (by first|assumption|decide|omega|exact ⟨by omega,by omega⟩) ?_)
  refine ay (A:=Nat) (fun k=>[(0,.ptr id 0),(4,.ptr H.nx 0),(33,.slice .any sz (l.map c)),(34,.int .i64 (l.length:Int)),(35,.int .i64 (k:Int))])
   (fun k=>(swH H id q (s1.add (bT g (l.take k)))).push (.cells (bm most wf r))) (fun k=>k≤l.length) (fun k=>l.length - k) 0 (by omega) ?_ fun k hk=>?_
  ·rw [yar,bT,dr,hst]
   refine ⟨by simp only [zkq,zkv,zle,zlf,ap];omega,by repeat first|exact .refl _|refine .push ?_ _,?_,?_,?_⟩
   ·rw [← hst];exact ae (hcl1 _) (hlc _)
   ·simp [ltF,zle,zlf,znn,znf,hlv]
    omega
   ·simp [ba,wk2,wk1,wkM,Fr.get]
  simp only [go_sem]
  refine ah (fun hc=>?_) (fun hc=>?_)
  ·have hk':k<l.length:=by simp at hc;omega
   obtain ⟨x,hx⟩:∃ x,x=l[k]:=⟨_,rfl⟩
   have hg:=cV (f:=c) (l:=l) (k:=k) (x:=x) (by rw [gQq hk',hx])
   have e5:=Yk5 k
   have hxo:=ha x (by rw [hx];exact gMq hk')
   obtain ⟨es',hlk⟩:=dD (g:=g) hk' hx hl
   have hSk:=hW.next (s1.add (bT g (l.take k)))
   obtain ⟨cs,hcc,hcl3,hall⟩:=hag x
   have hsp:∀ zs:List AV,zs.length=sz→splice zs 0 cs=cs:=fun zs hz=>cG (hz.trans hcl3.symm)
   have hts:List.take sz cs=cs:=ybc (by omega)
   rw [hcc] at hg
   clear hag
   subst ew es ec eo eg
   simp only [go_sem,iNq,ybb,hg,hcl3,hts,hall,hsp,if_true,yaz,yba,ap,bm,bj]
   refine ⟨by omega,?_⟩
   rw [← hcc]
   refine mZ hxo (hSk.push2 _ _) hlk ?_
   rw [hF.p2,es']
   simp only [go_sem,e5]
   refine ⟨k+1,by omega,by omega,by simp only [zkq,zkv,zle,ap];omega,by repeat first|exact .refl _|refine .push ?_ _,ae (hcl1 _) (hlc _),?_,?_⟩
   ·simp [ltF,zle,ap,znn,znf,hlv]
    omega
   ·simp [ba,wk2,wk1,wkM,Fr.get]
  ·have hk':k=l.length:=by simp at hc;omega
   subst hk'
   rw [List.take_length]
   simp only [go_sem]
   refine ⟨?_,by repeat first|exact .refl _|refine .push ?_ _,hcl1 _,?_⟩
   ·simp [wk,wk2,wk1,af]
   ·simp [zns,znv]
def jk:List AV→AHeap→(AV→Prop)→Prop
 |[],_,K=>K (.agg (bm 4 306 307))
 |_,_,_=>False
theorem B3:EntOk Tryz.prog 208 (Ent.pure jk):=by
 refine Ype fun _ H K h=>?_
 unfold jk at h
 split at h
 rotate_left
 ·exact h.elim
 refine ⟨_,h,?_⟩
 refine ACalls.fW ak tNq Tryz.func208 [.cell 0 267] (nrq _) (T:=aj []) (h:=fun hcl hlt=>?_)
 clear hlt
 simp only [go_sem,bm]
 exact Z16
def yB:=eW (cl) wC nt
def Dx:=jc 308 6 (cl) wC nt
theorem Cs:EntOk Tryz.prog 308 (Ent.effect yB):=by
 unfold yB
 refine EntOk.effect fun args H K h=>?_
 unfold eW at h
 split at h
 rotate_left
 ·exact h.elim
 rename_i id x
 obtain ⟨q,s,a,⟨hW,rfl,ha,hl⟩,hK⟩:=h
 refine ⟨_,_,hK,?_⟩
 clear hK
 have hF:=hW.facts
 have hcl0:=hW.closed (t:=s.add (nt a))
 have hid:=glq hW.o
 have hq:=glq hW.bu
 refine ACalls.fW ak (tCq fe (tCq sI tNq)) Tryz.func308 [] (by rw [ap];omega) (T:=aj []) (h:=fun hcl hlt=>?_)
 clear hlt
 have hcl1:=hcl0 hcl
 unfold nt at hl hcl1 ⊢
 rw [← aI,← aI,← aI,← aI] at hl hcl1 ⊢
 have hl5:=hl
 have hl4:=aX hl5
 have hl3:=aX hl4
 have hl2:=aX hl3
 have hl1:=aX hl2
 simp only [go_sem,cl,vc,ap,aA]
 refine dJ (.inl rfl) (hW.push _) hl1 ?_
 rw [hF.p0]
 simp only [go_sem,cl,vc,ap,aA]
 refine dJ (.inr rfl) ((hW.next _).push _) hl2 ?_
 rw [hF.p1]
 simp only [go_sem,cl,vc,ap,aA]
 refine dJ (.inl rfl) ((hW.next _).push _) hl3 ?_
 rw [hF.p1]
 simp only [go_sem,cl,vc,ap,aA]
 refine dJ (.inr rfl) ((hW.next _).push _) hl4 ?_
 rw [hF.p1]
 simp only [go_sem,cl,vc,ap,aA]
 refine yz (ha) ((hW.next _).push _) hl5 ?_
 rw [hF.p1]
 try simp only [go_sem,cl,vc,ap,aA]
 exact Z15
theorem y4:EntOk Tryz.prog 209 (Ent.effect Dx):=gY C7 (fun _ x=>r7 x) (fun _=>⟨_,rfl,rfl,rfl⟩) fun wf sz c ok g ew es ec eo eg hone hlt' hag id most r q s l H hW ha hl=>by
 refine ACalls.fW ak (tCq bJ (tCq Cs tNq)) Tryz.func209 [] (by rw [ap];omega) (T:=aj [(2,[[],[],[],[],[],[],[],[],[4,7],[],[],[4,7]])]) (h:=fun hcl hlt=>?_)
 have hF:=hW.facts
 have hcl1:=fun t=>hW.closed (t:=t) hcl
 have hid:=glq hW.o
 have hq:=glq hW.bu
 have hll:=eE hone hl
 obtain ⟨b,sl,sf,sa⟩:=s
 have hne:=b7 hid
 have hneq:=b7 hq
 have n1:(id=q)=False:=eq_false hW.ne
 have n2:(q=id)=False:=eq_false fun e=>hW.ne e.symm
 have hcs:=aq hW.o
 have hb0:=hW.bu
 have hi0:=hW.o
 have hnn:=hW.ne
 have hlb:b.length≤b8:=aX hl
 rw [bj] at hlb
 dsimp only at hcs hb0 hi0 hlb
 have lw2:=cr (l.length:Int) 2
 clear hlt
 have hcm:=fun cs=>@bp H id cs hid
 have hA:=fun X Y=>@bG H id q X Y hnn hid
 have hB:=fun X=>ck (X:=X) hnn hb0
 have eh:=fun X Y Z=>@cj H id q X Y Z
 have hL2:sl=true→(sl||decide ((l.length:Int) > most))=true:=fun h=>by rw [h,Bool.true_or]
 have hL3:sl=false→decide ((l.length:Int) > most)=(sl||decide ((l.length:Int) > most)):=fun h=>by rw [h,Bool.false_or]
 have hst:=eI (H:=H) (id:=id) (q:=q) (b:=b) (sl:=sl) (sf:=sf) (sa:=sa) (n:=l.length) (most:=most)
 have hS1:=hW.next ((⟨b,sl,sf,sa⟩:Enc).add (dq l.length most))
 have htot:(((⟨b,sl,sf,sa⟩:Enc).add (dq l.length most)).add (bT g l))=(⟨b,sl,sf,sa⟩:Enc).add (bD g most l):=by rw [aI];rfl
 rw [← htot] at hl ⊢
 generalize ((⟨b,sl,sf,sa⟩:Enc).add (dq l.length most))=s1 at *
 generalize (sl||decide ((l.length:Int) > most))=L at *
 have hlv:∀ n,(AV.slice .any sz (l.map c)).lt n:=fun n=>aU (hlt' n)
 have hlc:=fun n=>@dB n most wf r
 cases sl
 case' true =>
  rw [hL2 rfl] at hst
  simp only [go_sem,byq,hne,hneq,n1,n2,hcs,hcm,hA,hB,eh,hi0,hb0,aN,ybb]
 case' false =>
  simp only [go_sem,byq,hne,hneq,n1,n2,hcs,hcm,hA,hB,eh,hi0,hb0,aN,ybb,hL3 rfl]
 all_goals
  (repeat with_reducible refine And.intro (by first|assumption|decide|omega|exact ⟨by omega,by omega⟩) ?_)
  refine ay (A:=Nat) (fun k=>[(0,.ptr id 0),(4,.ptr H.nx 0),(33,.slice .any sz (l.map c)),(34,.int .i64 (l.length:Int)),(35,.int .i64 (k:Int))])
   (fun k=>(swH H id q (s1.add (bT g (l.take k)))).push (.cells (bm most wf r))) (fun k=>k≤l.length) (fun k=>l.length - k) 0 (by omega) ?_ fun k hk=>?_
  ·rw [yar,bT,dr,hst]
   refine ⟨by simp only [zkq,zkv,zle,zlf,ap];omega,by repeat first|exact .refl _|refine .push ?_ _,?_,?_,?_⟩
   ·rw [← hst];exact ae (hcl1 _) (hlc _)
   ·simp [ltF,zle,zlf,znn,znf,hlv]
    omega
   ·simp [ba,wk2,wk1,wkM,Fr.get]
  simp only [go_sem]
  refine ah (fun hc=>?_) (fun hc=>?_)
  ·have hk':k<l.length:=by simp at hc;omega
   obtain ⟨x,hx⟩:∃ x,x=l[k]:=⟨_,rfl⟩
   have hg:=cV (f:=c) (l:=l) (k:=k) (x:=x) (by rw [gQq hk',hx])
   have e5:=Yk5 k
   have hxo:=ha x (by rw [hx];exact gMq hk')
   obtain ⟨es',hlk⟩:=dD (g:=g) hk' hx hl
   have hSk:=hW.next (s1.add (bT g (l.take k)))
   obtain ⟨cs,hcc,hcl3,hall⟩:=hag x
   have hsp:∀ zs:List AV,zs.length=sz→splice zs 0 cs=cs:=fun zs hz=>cG (hz.trans hcl3.symm)
   have hts:List.take sz cs=cs:=ybc (by omega)
   rw [hcc] at hg
   clear hag
   subst ew es ec eo eg
   simp only [go_sem,iNq,ybb,hg,hcl3,hts,hall,hsp,if_true,yaz,yba,ap,bm,bj]
   refine ⟨by omega,?_⟩
   rw [← hcc]
   refine mZ hxo (hSk.push2 _ _) hlk ?_
   rw [hF.p2,es']
   simp only [go_sem,e5]
   refine ⟨k+1,by omega,by omega,by simp only [zkq,zkv,zle,ap];omega,by repeat first|exact .refl _|refine .push ?_ _,ae (hcl1 _) (hlc _),?_,?_⟩
   ·simp [ltF,zle,ap,znn,znf,hlv]
    omega
   ·simp [ba,wk2,wk1,wkM,Fr.get]
  ·have hk':k=l.length:=by simp at hc;omega
   subst hk'
   rw [List.take_length]
   simp only [go_sem]
   refine ⟨?_,by repeat first|exact .refl _|refine .push ?_ _,hcl1 _,?_⟩
   ·simp [wk,wk2,wk1,af]
   ·simp [zns,znv]
def jn:List AV→AHeap→(AV→Prop)→Prop
 |[],_,K=>K (.agg (bm 12 308 309))
 |_,_,_=>False
theorem DN:EntOk Tryz.prog 210 (Ent.pure jn):=by
 refine Ype fun _ H K h=>?_
 unfold jn at h
 split at h
 rotate_left
 ·exact h.elim
 refine ⟨_,h,?_⟩
 refine ACalls.fW ak tNq Tryz.func210 [.cell 0 273] (nrq _) (T:=aj []) (h:=fun hcl hlt=>?_)
 clear hlt
 simp only [go_sem,bm]
 exact Z16
def xM:=eW (bN) AW ss
def BV:=jc 310 3 (bN) AW ss
theorem Du:EntOk Tryz.prog 310 (Ent.effect xM):=by
 unfold xM
 refine EntOk.effect fun args H K h=>?_
 unfold eW at h
 split at h
 rotate_left
 ·exact h.elim
 rename_i id x
 obtain ⟨q,s,a,⟨hW,rfl,ha,hl⟩,hK⟩:=h
 refine ⟨_,_,hK,?_⟩
 clear hK
 have hF:=hW.facts
 have hcl0:=hW.closed (t:=s.add (ss a))
 have hid:=glq hW.o
 have hq:=glq hW.bu
 refine ACalls.fW ak (tCq km (tCq fe tNq)) Tryz.func310 [] (by rw [ap];omega) (T:=aj []) (h:=fun hcl hlt=>?_)
 clear hlt
 have hcl1:=hcl0 hcl
 unfold ss at hl hcl1 ⊢
 rw [← aI,← aI] at hl hcl1 ⊢
 have hl3:=hl
 have hl2:=aX hl3
 have hl1:=aX hl2
 simp only [go_sem,bN,ap,aA]
 refine mN (ha) (hW.push _) hl1 ?_
 rw [hF.p0]
 simp only [go_sem,bN,ap,aA]
 refine dJ (.inr rfl) ((hW.next _).push _) hl2 ?_
 rw [hF.p1]
 simp only [go_sem,bN,ap,aA]
 refine dJ (.inl rfl) ((hW.next _).push _) hl3 ?_
 rw [hF.p1]
 try simp only [go_sem,bN,ap,aA]
 exact Z15
theorem zY:EntOk Tryz.prog 215 (Ent.effect BV):=gY HK (fun _ x=>u1 x) (fun _=>⟨_,rfl,rfl,rfl⟩) fun wf sz c ok g ew es ec eo eg hone hlt' hag id most r q s l H hW ha hl=>by
 refine ACalls.fW ak (tCq bJ (tCq Du tNq)) Tryz.func215 [] (by rw [ap];omega) (T:=aj [(2,[[],[],[],[],[],[],[],[],[4,7],[],[],[4,7]])]) (h:=fun hcl hlt=>?_)
 have hF:=hW.facts
 have hcl1:=fun t=>hW.closed (t:=t) hcl
 have hid:=glq hW.o
 have hq:=glq hW.bu
 have hll:=eE hone hl
 obtain ⟨b,sl,sf,sa⟩:=s
 have hne:=b7 hid
 have hneq:=b7 hq
 have n1:(id=q)=False:=eq_false hW.ne
 have n2:(q=id)=False:=eq_false fun e=>hW.ne e.symm
 have hcs:=aq hW.o
 have hb0:=hW.bu
 have hi0:=hW.o
 have hnn:=hW.ne
 have hlb:b.length≤b8:=aX hl
 rw [bj] at hlb
 dsimp only at hcs hb0 hi0 hlb
 have lw2:=cr (l.length:Int) 2
 clear hlt
 have hcm:=fun cs=>@bp H id cs hid
 have hA:=fun X Y=>@bG H id q X Y hnn hid
 have hB:=fun X=>ck (X:=X) hnn hb0
 have eh:=fun X Y Z=>@cj H id q X Y Z
 have hL2:sl=true→(sl||decide ((l.length:Int) > most))=true:=fun h=>by rw [h,Bool.true_or]
 have hL3:sl=false→decide ((l.length:Int) > most)=(sl||decide ((l.length:Int) > most)):=fun h=>by rw [h,Bool.false_or]
 have hst:=eI (H:=H) (id:=id) (q:=q) (b:=b) (sl:=sl) (sf:=sf) (sa:=sa) (n:=l.length) (most:=most)
 have hS1:=hW.next ((⟨b,sl,sf,sa⟩:Enc).add (dq l.length most))
 have htot:(((⟨b,sl,sf,sa⟩:Enc).add (dq l.length most)).add (bT g l))=(⟨b,sl,sf,sa⟩:Enc).add (bD g most l):=by rw [aI];rfl
 rw [← htot] at hl ⊢
 generalize ((⟨b,sl,sf,sa⟩:Enc).add (dq l.length most))=s1 at *
 generalize (sl||decide ((l.length:Int) > most))=L at *
 have hlv:∀ n,(AV.slice .any sz (l.map c)).lt n:=fun n=>aU (hlt' n)
 have hlc:=fun n=>@dB n most wf r
 cases sl
 case' true =>
  rw [hL2 rfl] at hst
  simp only [go_sem,byq,hne,hneq,n1,n2,hcs,hcm,hA,hB,eh,hi0,hb0,aN,ybb]
 case' false =>
  simp only [go_sem,byq,hne,hneq,n1,n2,hcs,hcm,hA,hB,eh,hi0,hb0,aN,ybb,hL3 rfl]
 all_goals
  (repeat with_reducible refine And.intro (by first|assumption|decide|omega|exact ⟨by omega,by omega⟩) ?_)
  refine ay (A:=Nat) (fun k=>[(0,.ptr id 0),(4,.ptr H.nx 0),(33,.slice .any sz (l.map c)),(34,.int .i64 (l.length:Int)),(35,.int .i64 (k:Int))])
   (fun k=>(swH H id q (s1.add (bT g (l.take k)))).push (.cells (bm most wf r))) (fun k=>k≤l.length) (fun k=>l.length - k) 0 (by omega) ?_ fun k hk=>?_
  ·rw [yar,bT,dr,hst]
   refine ⟨by simp only [zkq,zkv,zle,zlf,ap];omega,by repeat first|exact .refl _|refine .push ?_ _,?_,?_,?_⟩
   ·rw [← hst];exact ae (hcl1 _) (hlc _)
   ·simp [ltF,zle,zlf,znn,znf,hlv]
    omega
   ·simp [ba,wk2,wk1,wkM,Fr.get]
  simp only [go_sem]
  refine ah (fun hc=>?_) (fun hc=>?_)
  ·have hk':k<l.length:=by simp at hc;omega
   obtain ⟨x,hx⟩:∃ x,x=l[k]:=⟨_,rfl⟩
   have hg:=cV (f:=c) (l:=l) (k:=k) (x:=x) (by rw [gQq hk',hx])
   have e5:=Yk5 k
   have hxo:=ha x (by rw [hx];exact gMq hk')
   obtain ⟨es',hlk⟩:=dD (g:=g) hk' hx hl
   have hSk:=hW.next (s1.add (bT g (l.take k)))
   obtain ⟨cs,hcc,hcl3,hall⟩:=hag x
   have hsp:∀ zs:List AV,zs.length=sz→splice zs 0 cs=cs:=fun zs hz=>cG (hz.trans hcl3.symm)
   have hts:List.take sz cs=cs:=ybc (by omega)
   rw [hcc] at hg
   clear hag
   subst ew es ec eo eg
   simp only [go_sem,iNq,ybb,hg,hcl3,hts,hall,hsp,if_true,yaz,yba,ap,bm,bj]
   refine ⟨by omega,?_⟩
   rw [← hcc]
   refine mZ hxo (hSk.push2 _ _) hlk ?_
   rw [hF.p2,es']
   simp only [go_sem,e5]
   refine ⟨k+1,by omega,by omega,by simp only [zkq,zkv,zle,ap];omega,by repeat first|exact .refl _|refine .push ?_ _,ae (hcl1 _) (hlc _),?_,?_⟩
   ·simp [ltF,zle,ap,znn,znf,hlv]
    omega
   ·simp [ba,wk2,wk1,wkM,Fr.get]
  ·have hk':k=l.length:=by simp at hc;omega
   subst hk'
   rw [List.take_length]
   simp only [go_sem]
   refine ⟨?_,by repeat first|exact .refl _|refine .push ?_ _,hcl1 _,?_⟩
   ·simp [wk,wk2,wk1,af]
   ·simp [zns,znv]
def gz:List AV→AHeap→(AV→Prop)→Prop
 |[],_,K=>K (.agg (bm 4 310 311))
 |_,_,_=>False
theorem EP:EntOk Tryz.prog 216 (Ent.pure gz):=by
 refine Ype fun _ H K h=>?_
 unfold gz at h
 split at h
 rotate_left
 ·exact h.elim
 refine ⟨_,h,?_⟩
 refine ACalls.fW ak tNq Tryz.func216 [.cell 0 281] (nrq _) (T:=aj []) (h:=fun hcl hlt=>?_)
 clear hlt
 simp only [go_sem,bm]
 exact Z16
def xu:=eW (cu) nn i7
def C3:=jc 222 2 (cu) nn i7
theorem Fv:EntOk Tryz.prog 222 (Ent.effect xu):=by
 unfold xu
 refine EntOk.effect fun args H K h=>?_
 unfold eW at h
 split at h
 rotate_left
 ·exact h.elim
 rename_i id x
 obtain ⟨q,s,a,⟨hW,rfl,ha,hl⟩,hK⟩:=h
 refine ⟨_,_,hK,?_⟩
 clear hK
 have hF:=hW.facts
 have hcl0:=hW.closed (t:=s.add (i7 a))
 have hid:=glq hW.o
 have hq:=glq hW.bu
 refine ACalls.fW ak (tCq fe tNq) Tryz.func222 [] (by rw [ap];omega) (T:=aj []) (h:=fun hcl hlt=>?_)
 clear hlt
 have hcl1:=hcl0 hcl
 unfold i7 at hl hcl1 ⊢
 rw [← aI] at hl hcl1 ⊢
 have hl2:=hl
 have hl1:=aX hl2
 simp only [go_sem,cu,ap,aA]
 refine dJ (.inr rfl) (hW.push _) hl1 ?_
 rw [hF.p0]
 simp only [go_sem,cu,ap,aA]
 refine dJ (.inr rfl) ((hW.next _).push _) hl2 ?_
 rw [hF.p1]
 try simp only [go_sem,cu,ap,aA]
 exact Z15
theorem AA:EntOk Tryz.prog 69 (Ent.effect C3):=gY zL (fun _ x=>wM x) (fun _=>⟨_,rfl,rfl,rfl⟩) fun wf sz c ok g ew es ec eo eg hone hlt' hag id most r q s l H hW ha hl=>by
 refine ACalls.fW ak (tCq bJ (tCq Fv tNq)) Tryz.func69 [] (by rw [ap];omega) (T:=aj [(2,[[],[],[],[],[],[],[],[],[4,7],[],[],[4,7]])]) (h:=fun hcl hlt=>?_)
 have hF:=hW.facts
 have hcl1:=fun t=>hW.closed (t:=t) hcl
 have hid:=glq hW.o
 have hq:=glq hW.bu
 have hll:=eE hone hl
 obtain ⟨b,sl,sf,sa⟩:=s
 have hne:=b7 hid
 have hneq:=b7 hq
 have n1:(id=q)=False:=eq_false hW.ne
 have n2:(q=id)=False:=eq_false fun e=>hW.ne e.symm
 have hcs:=aq hW.o
 have hb0:=hW.bu
 have hi0:=hW.o
 have hnn:=hW.ne
 have hlb:b.length≤b8:=aX hl
 rw [bj] at hlb
 dsimp only at hcs hb0 hi0 hlb
 have lw2:=cr (l.length:Int) 2
 clear hlt
 have hcm:=fun cs=>@bp H id cs hid
 have hA:=fun X Y=>@bG H id q X Y hnn hid
 have hB:=fun X=>ck (X:=X) hnn hb0
 have eh:=fun X Y Z=>@cj H id q X Y Z
 have hL2:sl=true→(sl||decide ((l.length:Int) > most))=true:=fun h=>by rw [h,Bool.true_or]
 have hL3:sl=false→decide ((l.length:Int) > most)=(sl||decide ((l.length:Int) > most)):=fun h=>by rw [h,Bool.false_or]
 have hst:=eI (H:=H) (id:=id) (q:=q) (b:=b) (sl:=sl) (sf:=sf) (sa:=sa) (n:=l.length) (most:=most)
 have hS1:=hW.next ((⟨b,sl,sf,sa⟩:Enc).add (dq l.length most))
 have htot:(((⟨b,sl,sf,sa⟩:Enc).add (dq l.length most)).add (bT g l))=(⟨b,sl,sf,sa⟩:Enc).add (bD g most l):=by rw [aI];rfl
 rw [← htot] at hl ⊢
 generalize ((⟨b,sl,sf,sa⟩:Enc).add (dq l.length most))=s1 at *
 generalize (sl||decide ((l.length:Int) > most))=L at *
 have hlv:∀ n,(AV.slice .any sz (l.map c)).lt n:=fun n=>aU (hlt' n)
 have hlc:=fun n=>@dB n most wf r
 cases sl
 case' true =>
  rw [hL2 rfl] at hst
  simp only [go_sem,byq,hne,hneq,n1,n2,hcs,hcm,hA,hB,eh,hi0,hb0,aN,ybb]
 case' false =>
  simp only [go_sem,byq,hne,hneq,n1,n2,hcs,hcm,hA,hB,eh,hi0,hb0,aN,ybb,hL3 rfl]
 all_goals
  (repeat with_reducible refine And.intro (by first|assumption|decide|omega|exact ⟨by omega,by omega⟩) ?_)
  refine ay (A:=Nat) (fun k=>[(0,.ptr id 0),(4,.ptr H.nx 0),(33,.slice .any sz (l.map c)),(34,.int .i64 (l.length:Int)),(35,.int .i64 (k:Int))])
   (fun k=>(swH H id q (s1.add (bT g (l.take k)))).push (.cells (bm most wf r))) (fun k=>k≤l.length) (fun k=>l.length - k) 0 (by omega) ?_ fun k hk=>?_
  ·rw [yar,bT,dr,hst]
   refine ⟨by simp only [zkq,zkv,zle,zlf,ap];omega,by repeat first|exact .refl _|refine .push ?_ _,?_,?_,?_⟩
   ·rw [← hst];exact ae (hcl1 _) (hlc _)
   ·simp [ltF,zle,zlf,znn,znf,hlv]
    omega
   ·simp [ba,wk2,wk1,wkM,Fr.get]
  simp only [go_sem]
  refine ah (fun hc=>?_) (fun hc=>?_)
  ·have hk':k<l.length:=by simp at hc;omega
   obtain ⟨x,hx⟩:∃ x,x=l[k]:=⟨_,rfl⟩
   have hg:=cV (f:=c) (l:=l) (k:=k) (x:=x) (by rw [gQq hk',hx])
   have e5:=Yk5 k
   have hxo:=ha x (by rw [hx];exact gMq hk')
   obtain ⟨es',hlk⟩:=dD (g:=g) hk' hx hl
   have hSk:=hW.next (s1.add (bT g (l.take k)))
   obtain ⟨cs,hcc,hcl3,hall⟩:=hag x
   have hsp:∀ zs:List AV,zs.length=sz→splice zs 0 cs=cs:=fun zs hz=>cG (hz.trans hcl3.symm)
   have hts:List.take sz cs=cs:=ybc (by omega)
   rw [hcc] at hg
   clear hag
   subst ew es ec eo eg
   simp only [go_sem,iNq,ybb,hg,hcl3,hts,hall,hsp,if_true,yaz,yba,ap,bm,bj]
   refine ⟨by omega,?_⟩
   rw [← hcc]
   refine mZ hxo (hSk.push2 _ _) hlk ?_
   rw [hF.p2,es']
   simp only [go_sem,e5]
   refine ⟨k+1,by omega,by omega,by simp only [zkq,zkv,zle,ap];omega,by repeat first|exact .refl _|refine .push ?_ _,ae (hcl1 _) (hlc _),?_,?_⟩
   ·simp [ltF,zle,ap,znn,znf,hlv]
    omega
   ·simp [ba,wk2,wk1,wkM,Fr.get]
  ·have hk':k=l.length:=by simp at hc;omega
   subst hk'
   rw [List.take_length]
   simp only [go_sem]
   refine ⟨?_,by repeat first|exact .refl _|refine .push ?_ _,hcl1 _,?_⟩
   ·simp [wk,wk2,wk1,af]
   ·simp [zns,znv]
def fV:List AV→AHeap→(AV→Prop)→Prop
 |[],_,K=>K (.agg (bm 12 222 223))
 |_,_,_=>False
theorem BR:EntOk Tryz.prog 70 (Ent.pure fV):=by
 refine Ype fun _ H K h=>?_
 unfold fV at h
 split at h
 rotate_left
 ·exact h.elim
 refine ⟨_,h,?_⟩
 refine ACalls.fW ak tNq Tryz.func70 [.cell 0 158] (nrq _) (T:=aj []) (h:=fun hcl hlt=>?_)
 clear hlt
 simp only [go_sem,bm]
 exact Z16
def xT:=eW (bZ) nn j2
def Fk:=jc 231 6 (bZ) nn j2
theorem Cn:EntOk Tryz.prog 231 (Ent.effect xT):=by
 unfold xT
 refine EntOk.effect fun args H K h=>?_
 unfold eW at h
 split at h
 rotate_left
 ·exact h.elim
 rename_i id x
 obtain ⟨q,s,a,⟨hW,rfl,ha,hl⟩,hK⟩:=h
 refine ⟨_,_,hK,?_⟩
 clear hK
 have hF:=hW.facts
 have hcl0:=hW.closed (t:=s.add (j2 a))
 have hid:=glq hW.o
 have hq:=glq hW.bu
 refine ACalls.fW ak (tCq fe tNq) Tryz.func231 [] (by rw [ap];omega) (T:=aj []) (h:=fun hcl hlt=>?_)
 clear hlt
 have hcl1:=hcl0 hcl
 unfold j2 at hl hcl1 ⊢
 rw [← aI,← aI,← aI,← aI,← aI] at hl hcl1 ⊢
 have hl6:=hl
 have hl5:=aX hl6
 have hl4:=aX hl5
 have hl3:=aX hl4
 have hl2:=aX hl3
 have hl1:=aX hl2
 simp only [go_sem,bZ,ap,aA]
 refine dJ (.inr rfl) (hW.push _) hl1 ?_
 rw [hF.p0]
 simp only [go_sem,bZ,ap,aA]
 refine dJ (.inl rfl) ((hW.next _).push _) hl2 ?_
 rw [hF.p1]
 simp only [go_sem,bZ,ap,aA]
 refine dJ (.inr rfl) ((hW.next _).push _) hl3 ?_
 rw [hF.p1]
 simp only [go_sem,bZ,ap,aA]
 refine dJ (.inl rfl) ((hW.next _).push _) hl4 ?_
 rw [hF.p1]
 simp only [go_sem,bZ,ap,aA]
 refine dJ (.inr rfl) ((hW.next _).push _) hl5 ?_
 rw [hF.p1]
 simp only [go_sem,bZ,ap,aA]
 refine dJ (.inl rfl) ((hW.next _).push _) hl6 ?_
 rw [hF.p1]
 try simp only [go_sem,bZ,ap,aA]
 exact Z15
theorem yT:EntOk Tryz.prog 73 (Ent.effect Fk):=gY Jv (fun _ x=>CO x) (fun _=>⟨_,rfl,rfl,rfl⟩) fun wf sz c ok g ew es ec eo eg hone hlt' hag id most r q s l H hW ha hl=>by
 refine ACalls.fW ak (tCq bJ (tCq Cn tNq)) Tryz.func73 [] (by rw [ap];omega) (T:=aj [(2,[[],[],[],[],[],[],[],[],[4,7],[],[],[4,7]])]) (h:=fun hcl hlt=>?_)
 have hF:=hW.facts
 have hcl1:=fun t=>hW.closed (t:=t) hcl
 have hid:=glq hW.o
 have hq:=glq hW.bu
 have hll:=eE hone hl
 obtain ⟨b,sl,sf,sa⟩:=s
 have hne:=b7 hid
 have hneq:=b7 hq
 have n1:(id=q)=False:=eq_false hW.ne
 have n2:(q=id)=False:=eq_false fun e=>hW.ne e.symm
 have hcs:=aq hW.o
 have hb0:=hW.bu
 have hi0:=hW.o
 have hnn:=hW.ne
 have hlb:b.length≤b8:=aX hl
 rw [bj] at hlb
 dsimp only at hcs hb0 hi0 hlb
 have lw2:=cr (l.length:Int) 2
 clear hlt
 have hcm:=fun cs=>@bp H id cs hid
 have hA:=fun X Y=>@bG H id q X Y hnn hid
 have hB:=fun X=>ck (X:=X) hnn hb0
 have eh:=fun X Y Z=>@cj H id q X Y Z
 have hL2:sl=true→(sl||decide ((l.length:Int) > most))=true:=fun h=>by rw [h,Bool.true_or]
 have hL3:sl=false→decide ((l.length:Int) > most)=(sl||decide ((l.length:Int) > most)):=fun h=>by rw [h,Bool.false_or]
 have hst:=eI (H:=H) (id:=id) (q:=q) (b:=b) (sl:=sl) (sf:=sf) (sa:=sa) (n:=l.length) (most:=most)
 have hS1:=hW.next ((⟨b,sl,sf,sa⟩:Enc).add (dq l.length most))
 have htot:(((⟨b,sl,sf,sa⟩:Enc).add (dq l.length most)).add (bT g l))=(⟨b,sl,sf,sa⟩:Enc).add (bD g most l):=by rw [aI];rfl
 rw [← htot] at hl ⊢
 generalize ((⟨b,sl,sf,sa⟩:Enc).add (dq l.length most))=s1 at *
 generalize (sl||decide ((l.length:Int) > most))=L at *
 have hlv:∀ n,(AV.slice .any sz (l.map c)).lt n:=fun n=>aU (hlt' n)
 have hlc:=fun n=>@dB n most wf r
 cases sl
 case' true =>
  rw [hL2 rfl] at hst
  simp only [go_sem,byq,hne,hneq,n1,n2,hcs,hcm,hA,hB,eh,hi0,hb0,aN,ybb]
 case' false =>
  simp only [go_sem,byq,hne,hneq,n1,n2,hcs,hcm,hA,hB,eh,hi0,hb0,aN,ybb,hL3 rfl]
 all_goals
  (repeat with_reducible refine And.intro (by first|assumption|decide|omega|exact ⟨by omega,by omega⟩) ?_)
  refine ay (A:=Nat) (fun k=>[(0,.ptr id 0),(4,.ptr H.nx 0),(33,.slice .any sz (l.map c)),(34,.int .i64 (l.length:Int)),(35,.int .i64 (k:Int))])
   (fun k=>(swH H id q (s1.add (bT g (l.take k)))).push (.cells (bm most wf r))) (fun k=>k≤l.length) (fun k=>l.length - k) 0 (by omega) ?_ fun k hk=>?_
  ·rw [yar,bT,dr,hst]
   refine ⟨by simp only [zkq,zkv,zle,zlf,ap];omega,by repeat first|exact .refl _|refine .push ?_ _,?_,?_,?_⟩
   ·rw [← hst];exact ae (hcl1 _) (hlc _)
   ·simp [ltF,zle,zlf,znn,znf,hlv]
    omega
   ·simp [ba,wk2,wk1,wkM,Fr.get]
  simp only [go_sem]
  refine ah (fun hc=>?_) (fun hc=>?_)
  ·have hk':k<l.length:=by simp at hc;omega
   obtain ⟨x,hx⟩:∃ x,x=l[k]:=⟨_,rfl⟩
   have hg:=cV (f:=c) (l:=l) (k:=k) (x:=x) (by rw [gQq hk',hx])
   have e5:=Yk5 k
   have hxo:=ha x (by rw [hx];exact gMq hk')
   obtain ⟨es',hlk⟩:=dD (g:=g) hk' hx hl
   have hSk:=hW.next (s1.add (bT g (l.take k)))
   obtain ⟨cs,hcc,hcl3,hall⟩:=hag x
   have hsp:∀ zs:List AV,zs.length=sz→splice zs 0 cs=cs:=fun zs hz=>cG (hz.trans hcl3.symm)
   have hts:List.take sz cs=cs:=ybc (by omega)
   rw [hcc] at hg
   clear hag
   subst ew es ec eo eg
   simp only [go_sem,iNq,ybb,hg,hcl3,hts,hall,hsp,if_true,yaz,yba,ap,bm,bj]
   refine ⟨by omega,?_⟩
   rw [← hcc]
   refine mZ hxo (hSk.push2 _ _) hlk ?_
   rw [hF.p2,es']
   simp only [go_sem,e5]
   refine ⟨k+1,by omega,by omega,by simp only [zkq,zkv,zle,ap];omega,by repeat first|exact .refl _|refine .push ?_ _,ae (hcl1 _) (hlc _),?_,?_⟩
   ·simp [ltF,zle,ap,znn,znf,hlv]
    omega
   ·simp [ba,wk2,wk1,wkM,Fr.get]
  ·have hk':k=l.length:=by simp at hc;omega
   subst hk'
   rw [List.take_length]
   simp only [go_sem]
   refine ⟨?_,by repeat first|exact .refl _|refine .push ?_ _,hcl1 _,?_⟩
   ·simp [wk,wk2,wk1,af]
   ·simp [zns,znv]
def fR:List AV→AHeap→(AV→Prop)→Prop
 |[],_,K=>K (.agg (bm 8 231 232))
 |_,_,_=>False
theorem FR:EntOk Tryz.prog 74 (Ent.pure fR):=by
 refine Ype fun _ H K h=>?_
 unfold fR at h
 split at h
 rotate_left
 ·exact h.elim
 refine ⟨_,h,?_⟩
 refine ACalls.fW ak tNq Tryz.func74 [.cell 0 170] (nrq _) (T:=aj []) (h:=fun hcl hlt=>?_)
 clear hlt
 simp only [go_sem,bm]
 exact Z16
end Go.AL
