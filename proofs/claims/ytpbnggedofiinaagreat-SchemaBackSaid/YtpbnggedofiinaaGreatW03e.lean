/- Lemmas of the proof; no condition. -/
import Derived.Test.YtpbnggedofiinaaGreatW03c
set_option linter.all false
set_option maxRecDepth 10000
set_option maxHeartbeats 32000000
open List renaming take_zero → yar, nil_append → yak, drop_eq_nil_of_le → ybf, append_nil → yaj, length_cons → yaz, length_nil → yba, take_of_length_le → ybc, drop_append → ybd, take_append → ybe, length_map → ybb
open Go Go.AL Go.Proofs
namespace Go.AL
theorem AB:ti Tryz.prog 266=some ⟨.struct [(0,3,false),(1,263,false),(2,264,false)],3,24,.agg [.int .i64 0,.nilf,.nilf]⟩:=by kernel_rfl
theorem Ez:ti Tryz.prog 263=some ⟨.func,1,8,.nilf⟩:=by kernel_rfl
theorem Dh:ti Tryz.prog 264=some ⟨.func,1,8,.nilf⟩:=by kernel_rfl
theorem Ba:ti Tryz.prog 300=some ⟨.struct [(0,3,false),(1,297,false),(2,298,false)],3,24,.agg [.int .i64 0,.nilf,.nilf]⟩:=by kernel_rfl
theorem BB:ti Tryz.prog 297=some ⟨.func,1,8,.nilf⟩:=by kernel_rfl
theorem BA:ti Tryz.prog 298=some ⟨.func,1,8,.nilf⟩:=by kernel_rfl
theorem z7:ti Tryz.prog 336=some ⟨.struct [(0,3,false),(1,333,false),(2,334,false)],3,24,.agg [.int .i64 0,.nilf,.nilf]⟩:=by kernel_rfl
theorem EK:ti Tryz.prog 333=some ⟨.func,1,8,.nilf⟩:=by kernel_rfl
theorem DD:ti Tryz.prog 334=some ⟨.func,1,8,.nilf⟩:=by kernel_rfl
theorem At:ti Tryz.prog 136=some ⟨.struct [(0,3,false),(1,133,false),(2,134,false)],3,24,.agg [.int .i64 0,.nilf,.nilf]⟩:=by kernel_rfl
theorem CO:ti Tryz.prog 133=some ⟨.func,1,8,.nilf⟩:=by kernel_rfl
theorem DF:ti Tryz.prog 134=some ⟨.func,1,8,.nilf⟩:=by kernel_rfl
theorem zT:ti Tryz.prog 273=some ⟨.struct [(0,3,false),(1,270,false),(2,271,false)],3,24,.agg [.int .i64 0,.nilf,.nilf]⟩:=by kernel_rfl
theorem BF:ti Tryz.prog 270=some ⟨.func,1,8,.nilf⟩:=by kernel_rfl
theorem BG:ti Tryz.prog 271=some ⟨.func,1,8,.nilf⟩:=by kernel_rfl
attribute [go_sem] AB Ez Dh Ba BB BA z7 EK DD At CO DF zT BF BG
theorem bG {n:Nat} {f:Fn}:AV.lt n (.func f [] []):=by rw [AV.lt];exact ⟨fun j hj=>absurd hj (by simp),fun j hj=>absurd hj (by simp)⟩
def aP (most:Int) (f r:Nat):List AV:=[.int .i64 most,.func (.func f) [] [],.func (.func r) [] []]
theorem eH {n:Nat} {most:Int} {f r:Nat}:ltL n (aP most f r):=by simp [aP,znu,znv,znf,bG]
theorem fB {α:Type} {g:α→Enc} (h1:∀ x,1≤(g x).b.length) {l:List α} {s:Enc} {m:Int} (hl:(s.add (bC g m l)).b.length≤ce):l.length≤100000000000000:=by
 have h2:=yp h1 l
 unfold bC at hl
 rw [bL,bL,aZ] at hl
 omega
theorem eC {α:Type} {g:α→Enc} {l:List α} {s:Enc} {k:Nat} {x:α} (hk:k<l.length) (hx:x=l[k]) (hl:(s.add (bD g l)).b.length≤ce) :
 (s.add (bD g (l.take k))).add (g x)=s.add (bD g (l.take (k+1)))∧((s.add (bD g (l.take k))).add (g x)).b.length≤ce:=by
 have et:l.take (k+1)=l.take k++[x]:=by rw [hx,List.take_succ_eq_append_getElem hk]
 have es:(s.add (bD g (l.take k))).add (g x)=s.add (bD g (l.take (k+1))):=by rw [am,← zH,et]
 refine ⟨es,?_⟩
 have h1:=As g l (k+1)
 rw [es]
 rw [bL] at hl ⊢
 omega
theorem bI {H:AHeap} {id q:Nat} {X:List AV} {Y:AObj} (hn:id≠q) (hid:id<H.nx):ay ((H.set id (.cells X)).set q Y) id=some X:=by
 unfold ay;rw [AHeap.get_set_ne _ _ hn,AHeap.get_set_same _ _ hid]
theorem cE {H:AHeap} {id q:Nat} {X o:AObj} (hn:id≠q) (h:H.get q=some o):(H.set id X).get q=some o:=by rw [AHeap.get_set_ne _ _ (fun e=>hn e.symm)];exact h
theorem cD {H:AHeap} {id q:Nat} {X Y Z:AObj}:((H.set id X).set q Y).set id Z=(H.set q Y).set id Z:=by
 unfold AHeap.set;congr 1;funext j;dsimp only;by_cases h1:j=id<;>simp [h1]
theorem fC {H:AHeap} {id q n:Nat} {b:List UInt8} {sl sf sa:Bool} {most:Int}:swH H id q ((⟨b,sl,sf,sa⟩:Enc).add (ei n most))=(H.set q (.buf 1 (b.length+(fy (n:Int) 2).length))).set id (.cells (swC q (b++fy (n:Int) 2) (sl||decide ((n:Int) > most)) sf sa)):=by
 unfold swH Enc.add ei swC
 simp only [Bool.or_false,lAq]
theorem SOn.push2 {H:AHeap} {id q:Nat} {s:Enc} (h:SOn H id q s) (x y:AObj):SOn ((H.push x).push y) id q s:=(h.push x).push y
theorem au {H:AHeap} {id q:Nat} {s:Enc}:(swH H id q s).nx=H.nx:=ai
theorem wr {n v:Nat}:(vv v).lt n:=by simp [vv,znr,znu,znv,znf]
theorem ks {n:Nat} (x:SField):(br x).lt n:=by simp [br,znr,znu,znv,znf,znh]
theorem ki {n:Nat} (x:SCase):(bW x).lt n:=by simp [bW,vc,znr,znu,znv,znf]
theorem jn {n:Nat} (x:SParam):(bE x).lt n:=by simp [bE,znr,znu,znv,znf,znh]
theorem kg {n:Nat} (x:SPrim):(bY x).lt n:=by simp [bY,vc,znr,znu,znv,znf]
theorem lw {n:Nat} (x:SKey):(cH x).lt n:=by simp [cH,znr,znu,znv,znf,znh]
theorem kv {n:Nat} (x:SStage):(bx x).lt n:=by simp [bx,znr,znu,znv,znf]
theorem mq {n:Nat} (x:SRef):(cP x).lt n:=by simp [cP,znr,znu,znv,znf]
theorem fm {n:Nat} (x:SHeader):(bc x).lt n:=by simp [bc,inL,znr,znu,znv,znf,znh,aA fun _=>of_eq_true znf]
theorem gc {n:Nat} (x:SState):(a0 x).lt n:=by simp [a0,znr,znu,znv,znf,aA ki]
theorem fj {n:Nat} (x:SAction):(aI x).lt n:=by simp [aI,znr,znu,znv,znf,znh,aA jn,aA kg]
theorem bV {n:Nat} (x:SGrant):(aN x).lt n:=by simp [aN,boL,znr,znu,znv,znf,zng,aA fun _=>of_eq_true zng]
theorem f5 {n:Nat} (x:STable):(aH x).lt n:=by simp [aH,inL,znr,znu,znv,znf,znh,aA fun _=>of_eq_true znf,aA lw,aA fun _=>wr]
theorem ck {n:Nat} (x:SRole):(bH x).lt n:=by simp [bH,inL,znr,znu,znv,znf,znh,zng,aA fun _=>of_eq_true znf,aA bV]
theorem dX {zs cs:List AV} (h:zs.length=cs.length):splice zs 0 cs=cs:=by
 rw [nk zs cs 0 (by omega),yar,yak,ybf (by omega),yaj]
theorem ju {α:Type} {P:Program} {f wf sz:Nat} {c:α→AV} {ok:α→Prop} {g:α→Enc} (hone:∀ x,1≤(g x).b.length) (hlt:∀ n x,(c x).lt n) (hag:∀ x,∃ cs,c x=.agg cs∧cs.length=sz∧bX cs=true)
 (h:∀ (wf' sz':Nat) (c':α→AV) (ok':α→Prop) (g':α→Enc),wf'=wf→sz'=sz→c'=c→ok'=ok→g'=g→(∀ x,1≤(g' x).b.length)→(∀ n x,(c' x).lt n)→(∀ x,∃ cs,c' x=.agg cs∧cs.length=sz'∧bX cs=true)→∀ (id:Nat) (most:Int) (r q:Nat) (s:Enc) (l:List α) (H:AHeap),SOn H id q s→(∀ a∈l,ok' a)→(s.add (bC g' most l)).b.length≤ce→ACalls P f [.ptr id 0,.agg [.int .i64 most,.func (.func wf') [] [],.func (.func r) [] []],.slice .any sz' (l.map c')] H (.ret (.tup [])) (swH H id q (s.add (bC g' most l)))):EntOk P f (Ent.effect (kF wf sz c ok g)):=by
 refine EntOk.effect fun args H K hh=>?_
 unfold kF at hh
 split at hh
 ·obtain ⟨q,s,l,⟨hW,rfl,rfl,rfl,ha,hl⟩,hK⟩:=hh
  exact ⟨_,_,hK,h _ _ _ _ _ rfl rfl rfl rfl rfl hone hlt hag _ _ _ _ _ _ _ hW ha hl⟩
 ·exact hh.elim
def yF:=eW (.int .i64) bS fh
def u1:=kF 220 1 (.int .i64) bS fh
theorem Dp:EntOk Tryz.prog 220 (Ent.effect yF):=by
 unfold yF
 refine EntOk.effect fun args H K h=>?_
 unfold eW at h
 split at h
 rotate_left
 ·exact h.elim
 rename_i id x
 obtain ⟨q,s,a,⟨hW,rfl,ha,hl⟩,hK⟩:=h
 refine ⟨_,_,hK,?_⟩
 clear hK
 have hF:=hW.facts
 have hcl0:=hW.closed (t:=s.add (fh a))
 have hid:=glq hW.o
 have hq:=glq hW.bu
 refine ACalls.fW ag (tCq fE tNq) Tryz.func220 [] (by rw [ai];omega) (T:=af []) (h:=fun hcl hlt=>?_)
 clear hlt
 have hcl1:=hcl0 hcl
 unfold fh at hl hcl1 ⊢
 have hl1:=hl
 simp only [go_sem,ai,au]
 refine ek (.inr rfl) hW hl1 ?_
 try simp only [go_sem,ai,au]
 exact Z7
theorem pM:EntOk Tryz.prog 156 (Ent.effect u1):=by
 unfold u1
 refine EntOk.effect fun args H K h=>?_
 unfold kF at h
 split at h
 rotate_left
 ·exact h.elim
 rename_i id most f' r sz' xs
 obtain ⟨q,s,l,⟨hW,rfl,rfl,rfl,ha,hl⟩,hK⟩:=h
 refine ⟨_,_,hK,?_⟩
 clear hK
 have hF:=hW.facts
 have hcl0:=fun t=>hW.closed (t:=t)
 have hid:=glq hW.o
 have hq:=glq hW.bu
 have hll:=fB EA hl
 obtain ⟨b,sl,sf,sa⟩:=s
 have hne:=aL hid
 have hneq:=aL hq
 have n1:(id=q)=False:=eq_false hW.ne
 have n2:(q=id)=False:=eq_false fun e=>hW.ne e.symm
 have hcs:=ax hW.o
 have hb0:=hW.bu
 have hi0:=hW.o
 have hnn:=hW.ne
 have hlb:b.length≤ce:=aE hl
 rw [aZ] at hlb
 dsimp only at hcs hb0 hi0 hlb
 have lw2:=cn (l.length:Int) 2
 refine ACalls.fW ag (tCq bO (tCq Dp tNq)) Tryz.func156 [] (by rw [ai];omega) (T:=af [(2,[[],[],[],[],[],[],[],[],[4,7],[],[],[4,7]])]) (h:=fun hcl hlt=>?_)
 clear hlt
 have hcl1:=fun t=>hcl0 t hcl
 have hcm:=fun cs=>@al H id cs hid
 have hA:=fun X Y=>@bI H id q X Y hnn hid
 have hB:=fun X=>cE (X:=X) hnn hb0
 have eh:=fun X Y Z=>@cD H id q X Y Z
 have hL2:sl=true→(sl||decide ((l.length:Int) > most))=true:=fun h=>by rw [h,Bool.true_or]
 have hL3:sl=false→decide ((l.length:Int) > most)=(sl||decide ((l.length:Int) > most)):=fun h=>by rw [h,Bool.false_or]
 have hst:=fC (H:=H) (id:=id) (q:=q) (b:=b) (sl:=sl) (sf:=sf) (sa:=sa) (n:=l.length) (most:=most)
 have hS1:=hW.next ((⟨b,sl,sf,sa⟩:Enc).add (ei l.length most))
 have htot:(((⟨b,sl,sf,sa⟩:Enc).add (ei l.length most)).add (bD fh l))=(⟨b,sl,sf,sa⟩:Enc).add (bC fh most l):=by rw [am];rfl
 rw [← htot] at hl ⊢
 generalize ((⟨b,sl,sf,sa⟩:Enc).add (ei l.length most))=s1 at *
 generalize (sl||decide ((l.length:Int) > most))=L at *
 have hlv:∀ n,(AV.slice .any 1 (l.map (.int .i64))).lt n:=fun n=>aA (fun x=>of_eq_true znf)
 have hlc:=fun n=>@eH n most 220 r
 cases sl
 case' true =>
  rw [hL2 rfl] at hst
  simp only [go_sem,byq,hne,hneq,n1,n2,hcs,hcm,hA,hB,eh,hi0,hb0,aD,ybb]
 case' false =>
  simp only [go_sem,byq,hne,hneq,n1,n2,hcs,hcm,hA,hB,eh,hi0,hb0,aD,ybb,hL3 rfl]
 all_goals
  (repeat with_reducible refine And.intro (by first|assumption|decide|omega|exact ⟨by omega,by omega⟩) ?_)
  refine aq (A:=Nat) (fun k=>[(0,.ptr id 0),(4,.ptr H.nx 0),(33,.slice .any 1 (l.map (.int .i64))),(34,.int .i64 (l.length:Int)),(35,.int .i64 (k:Int))])
   (fun k=>(swH H id q (s1.add (bD fh (l.take k)))).push (.cells (aP most 220 r))) (fun k=>k≤l.length) (fun k=>l.length - k) 0 (by omega) ?_ fun k hk=>?_
  ·rw [yar,bD,ej,hst]
   refine ⟨by simp only [zkq,zkv,zle,zlf,ai];omega,by repeat first|exact .refl _|refine .push ?_ _,?_,?_,?_⟩
   ·rw [← hst];exact aj (hcl1 _) (hlc _)
   ·simp [ltF,zle,zlf,znn,znf,hlv]
    omega
   ·simp [aM,wk2,wk1,wkM,Fr.get]
  simp only [go_sem]
  refine ae (fun hc=>?_) (fun hc=>?_)
  ·have hk':k<l.length:=by simp at hc;omega
   obtain ⟨x,hx⟩:∃ x,x=l[k]:=⟨_,rfl⟩
   have hg:=av (f:=.int .i64) (l:=l) (k:=k) (x:=x) (by rw [gQq hk',hx])
   have e5:=Yk5 k
   have hxo:=ha x (by rw [hx];exact gMq hk')
   obtain ⟨es,hlk⟩:=eC (g:=fh) hk' hx hl
   have hSk:=hW.next (s1.add (bD fh (l.take k)))
   simp only [go_sem,iNq,ybb,hg,ai,aP,aZ]
   refine ⟨by omega,?_⟩
   refine n9 (c:=.int .i64) hxo (hSk.push _) hlk ?_
   rw [hF.p1,es]
   simp only [go_sem,e5]
   refine ⟨k+1,by omega,by omega,by simp only [zkq,zkv,zle,ai];omega,by repeat first|exact .refl _|refine .push ?_ _,aj (hcl1 _) (hlc _),?_,?_⟩
   ·simp [ltF,zle,ai,znn,znf,hlv]
    omega
   ·simp [aM,wk2,wk1,wkM,Fr.get]
  ·have hk':k=l.length:=by simp at hc;omega
   subst hk'
   rw [List.take_length]
   simp only [go_sem]
   refine ⟨?_,by repeat first|exact .refl _|refine .push ?_ _,hcl1 _,?_⟩
   ·simp [wk,wk2,wk1,ak]
   ·simp [zns,znv]
def cX:List AV→AHeap→(AV→Prop)→Prop
 |[.int .i64 most],_,K=>K (.agg (aP most 220 221))
 |_,_,_=>False
theorem lC:EntOk Tryz.prog 157 (Ent.pure cX):=by
 refine Ype fun _ H K h=>?_
 unfold cX at h
 split at h
 rotate_left
 ·exact h.elim
 refine ⟨_,h,?_⟩
 refine ACalls.fW ag tNq Tryz.func157 [.cell 2 266] (nrq _) (T:=af []) (h:=fun hcl hlt=>?_)
 clear hlt
 simp only [go_sem,aP]
 exact Z8
def vH:=kF 223 2 (vv) ib kE
theorem zX:EntOk Tryz.prog 176 (Ent.effect vH):=by
 unfold vH
 refine EntOk.effect fun args H K h=>?_
 unfold kF at h
 split at h
 rotate_left
 ·exact h.elim
 rename_i id most f' r sz' xs
 obtain ⟨q,s,l,⟨hW,rfl,rfl,rfl,ha,hl⟩,hK⟩:=h
 refine ⟨_,_,hK,?_⟩
 clear hK
 have hF:=hW.facts
 have hcl0:=fun t=>hW.closed (t:=t)
 have hid:=glq hW.o
 have hq:=glq hW.bu
 have hll:=fB BO hl
 obtain ⟨b,sl,sf,sa⟩:=s
 have hne:=aL hid
 have hneq:=aL hq
 have n1:(id=q)=False:=eq_false hW.ne
 have n2:(q=id)=False:=eq_false fun e=>hW.ne e.symm
 have hcs:=ax hW.o
 have hb0:=hW.bu
 have hi0:=hW.o
 have hnn:=hW.ne
 have hlb:b.length≤ce:=aE hl
 rw [aZ] at hlb
 dsimp only at hcs hb0 hi0 hlb
 have lw2:=cn (l.length:Int) 2
 refine ACalls.fW ag (tCq bO (tCq tU tNq)) Tryz.func176 [] (by rw [ai];omega) (T:=af [(2,[[],[],[],[],[],[],[],[],[4,7],[],[],[4,7]])]) (h:=fun hcl hlt=>?_)
 clear hlt
 have hcl1:=fun t=>hcl0 t hcl
 have hcm:=fun cs=>@al H id cs hid
 have hA:=fun X Y=>@bI H id q X Y hnn hid
 have hB:=fun X=>cE (X:=X) hnn hb0
 have eh:=fun X Y Z=>@cD H id q X Y Z
 have hL2:sl=true→(sl||decide ((l.length:Int) > most))=true:=fun h=>by rw [h,Bool.true_or]
 have hL3:sl=false→decide ((l.length:Int) > most)=(sl||decide ((l.length:Int) > most)):=fun h=>by rw [h,Bool.false_or]
 have hst:=fC (H:=H) (id:=id) (q:=q) (b:=b) (sl:=sl) (sf:=sf) (sa:=sa) (n:=l.length) (most:=most)
 have hS1:=hW.next ((⟨b,sl,sf,sa⟩:Enc).add (ei l.length most))
 have htot:(((⟨b,sl,sf,sa⟩:Enc).add (ei l.length most)).add (bD kE l))=(⟨b,sl,sf,sa⟩:Enc).add (bC kE most l):=by rw [am];rfl
 rw [← htot] at hl ⊢
 generalize ((⟨b,sl,sf,sa⟩:Enc).add (ei l.length most))=s1 at *
 generalize (sl||decide ((l.length:Int) > most))=L at *
 have hlv:∀ n,(AV.slice .any 2 (l.map (vv))).lt n:=fun n=>aA (fun x=>wr)
 have hlc:=fun n=>@eH n most 223 r
 cases sl
 case' true =>
  rw [hL2 rfl] at hst
  simp only [go_sem,byq,hne,hneq,n1,n2,hcs,hcm,hA,hB,eh,hi0,hb0,aD,ybb]
 case' false =>
  simp only [go_sem,byq,hne,hneq,n1,n2,hcs,hcm,hA,hB,eh,hi0,hb0,aD,ybb,hL3 rfl]
 all_goals
  (repeat with_reducible refine And.intro (by first|assumption|decide|omega|exact ⟨by omega,by omega⟩) ?_)
  refine aq (A:=Nat) (fun k=>[(0,.ptr id 0),(4,.ptr H.nx 0),(33,.slice .any 2 (l.map (vv))),(34,.int .i64 (l.length:Int)),(35,.int .i64 (k:Int))])
   (fun k=>(swH H id q (s1.add (bD kE (l.take k)))).push (.cells (aP most 223 r))) (fun k=>k≤l.length) (fun k=>l.length - k) 0 (by omega) ?_ fun k hk=>?_
  ·rw [yar,bD,ej,hst]
   refine ⟨by simp only [zkq,zkv,zle,zlf,ai];omega,by repeat first|exact .refl _|refine .push ?_ _,?_,?_,?_⟩
   ·rw [← hst];exact aj (hcl1 _) (hlc _)
   ·simp [ltF,zle,zlf,znn,znf,hlv]
    omega
   ·simp [aM,wk2,wk1,wkM,Fr.get]
  simp only [go_sem]
  refine ae (fun hc=>?_) (fun hc=>?_)
  ·have hk':k<l.length:=by simp at hc;omega
   obtain ⟨x,hx⟩:∃ x,x=l[k]:=⟨_,rfl⟩
   have hg:=av (f:=vv) (l:=l) (k:=k) (x:=x) (by rw [gQq hk',hx])
   have e5:=Yk5 k
   have hxo:=ha x (by rw [hx];exact gMq hk')
   obtain ⟨es,hlk⟩:=eC (g:=kE) hk' hx hl
   have hSk:=hW.next (s1.add (bD kE (l.take k)))
   simp only [go_sem,iNq,ybb,hg,ai,vv,aP,aZ]
   refine ⟨by omega,?_⟩
   refine yr hxo (hSk.push2 _ _) hlk ?_
   rw [hF.p2,es]
   simp only [go_sem,e5]
   refine ⟨k+1,by omega,by omega,by simp only [zkq,zkv,zle,ai];omega,by repeat first|exact .refl _|refine .push ?_ _,aj (hcl1 _) (hlc _),?_,?_⟩
   ·simp [ltF,zle,ai,znn,znf,hlv]
    omega
   ·simp [aM,wk2,wk1,wkM,Fr.get]
  ·have hk':k=l.length:=by simp at hc;omega
   subst hk'
   rw [List.take_length]
   simp only [go_sem]
   refine ⟨?_,by repeat first|exact .refl _|refine .push ?_ _,hcl1 _,?_⟩
   ·simp [wk,wk2,wk1,ak]
   ·simp [zns,znv]
def iE:List AV→AHeap→(AV→Prop)→Prop
 |[],_,K=>K (.agg (aP 4 223 117))
 |_,_,_=>False
theorem vZ:EntOk Tryz.prog 177 (Ent.pure iE):=by
 refine Ype fun _ H K h=>?_
 unfold iE at h
 split at h
 rotate_left
 ·exact h.elim
 refine ⟨_,h,?_⟩
 refine ACalls.fW ag tNq Tryz.func177 [.cell 0 300] (nrq _) (T:=af []) (h:=fun hcl hlt=>?_)
 clear hlt
 simp only [go_sem,aP]
 exact Z8
def we:=kF 186 1 (.bool) bS jO
theorem AX:EntOk Tryz.prog 232 (Ent.effect we):=by
 unfold we
 refine EntOk.effect fun args H K h=>?_
 unfold kF at h
 split at h
 rotate_left
 ·exact h.elim
 rename_i id most f' r sz' xs
 obtain ⟨q,s,l,⟨hW,rfl,rfl,rfl,ha,hl⟩,hK⟩:=h
 refine ⟨_,_,hK,?_⟩
 clear hK
 have hF:=hW.facts
 have hcl0:=fun t=>hW.closed (t:=t)
 have hid:=glq hW.o
 have hq:=glq hW.bu
 have hll:=fB Bq hl
 obtain ⟨b,sl,sf,sa⟩:=s
 have hne:=aL hid
 have hneq:=aL hq
 have n1:(id=q)=False:=eq_false hW.ne
 have n2:(q=id)=False:=eq_false fun e=>hW.ne e.symm
 have hcs:=ax hW.o
 have hb0:=hW.bu
 have hi0:=hW.o
 have hnn:=hW.ne
 have hlb:b.length≤ce:=aE hl
 rw [aZ] at hlb
 dsimp only at hcs hb0 hi0 hlb
 have lw2:=cn (l.length:Int) 2
 refine ACalls.fW ag (tCq bO (tCq tZ tNq)) Tryz.func232 [] (by rw [ai];omega) (T:=af [(2,[[],[],[],[],[],[],[],[],[4,7],[],[],[4,7]])]) (h:=fun hcl hlt=>?_)
 clear hlt
 have hcl1:=fun t=>hcl0 t hcl
 have hcm:=fun cs=>@al H id cs hid
 have hA:=fun X Y=>@bI H id q X Y hnn hid
 have hB:=fun X=>cE (X:=X) hnn hb0
 have eh:=fun X Y Z=>@cD H id q X Y Z
 have hL2:sl=true→(sl||decide ((l.length:Int) > most))=true:=fun h=>by rw [h,Bool.true_or]
 have hL3:sl=false→decide ((l.length:Int) > most)=(sl||decide ((l.length:Int) > most)):=fun h=>by rw [h,Bool.false_or]
 have hst:=fC (H:=H) (id:=id) (q:=q) (b:=b) (sl:=sl) (sf:=sf) (sa:=sa) (n:=l.length) (most:=most)
 have hS1:=hW.next ((⟨b,sl,sf,sa⟩:Enc).add (ei l.length most))
 have htot:(((⟨b,sl,sf,sa⟩:Enc).add (ei l.length most)).add (bD jO l))=(⟨b,sl,sf,sa⟩:Enc).add (bC jO most l):=by rw [am];rfl
 rw [← htot] at hl ⊢
 generalize ((⟨b,sl,sf,sa⟩:Enc).add (ei l.length most))=s1 at *
 generalize (sl||decide ((l.length:Int) > most))=L at *
 have hlv:∀ n,(AV.slice .any 1 (l.map (.bool))).lt n:=fun n=>aA (fun x=>of_eq_true zng)
 have hlc:=fun n=>@eH n most 186 r
 cases sl
 case' true =>
  rw [hL2 rfl] at hst
  simp only [go_sem,byq,hne,hneq,n1,n2,hcs,hcm,hA,hB,eh,hi0,hb0,aD,ybb]
 case' false =>
  simp only [go_sem,byq,hne,hneq,n1,n2,hcs,hcm,hA,hB,eh,hi0,hb0,aD,ybb,hL3 rfl]
 all_goals
  (repeat with_reducible refine And.intro (by first|assumption|decide|omega|exact ⟨by omega,by omega⟩) ?_)
  refine aq (A:=Nat) (fun k=>[(0,.ptr id 0),(4,.ptr H.nx 0),(33,.slice .any 1 (l.map (.bool))),(34,.int .i64 (l.length:Int)),(35,.int .i64 (k:Int))])
   (fun k=>(swH H id q (s1.add (bD jO (l.take k)))).push (.cells (aP most 186 r))) (fun k=>k≤l.length) (fun k=>l.length - k) 0 (by omega) ?_ fun k hk=>?_
  ·rw [yar,bD,ej,hst]
   refine ⟨by simp only [zkq,zkv,zle,zlf,ai];omega,by repeat first|exact .refl _|refine .push ?_ _,?_,?_,?_⟩
   ·rw [← hst];exact aj (hcl1 _) (hlc _)
   ·simp [ltF,zle,zlf,znn,znf,hlv]
    omega
   ·simp [aM,wk2,wk1,wkM,Fr.get]
  simp only [go_sem]
  refine ae (fun hc=>?_) (fun hc=>?_)
  ·have hk':k<l.length:=by simp at hc;omega
   obtain ⟨x,hx⟩:∃ x,x=l[k]:=⟨_,rfl⟩
   have hg:=av (f:=.bool) (l:=l) (k:=k) (x:=x) (by rw [gQq hk',hx])
   have e5:=Yk5 k
   have hxo:=ha x (by rw [hx];exact gMq hk')
   obtain ⟨es,hlk⟩:=eC (g:=jO) hk' hx hl
   have hSk:=hW.next (s1.add (bD jO (l.take k)))
   simp only [go_sem,iNq,ybb,hg,ai,aP,aZ]
   refine ⟨by omega,?_⟩
   refine ym (hSk.push _) hlk ?_
   rw [hF.p1,es]
   simp only [go_sem,e5]
   refine ⟨k+1,by omega,by omega,by simp only [zkq,zkv,zle,ai];omega,by repeat first|exact .refl _|refine .push ?_ _,aj (hcl1 _) (hlc _),?_,?_⟩
   ·simp [ltF,zle,ai,znn,znf,hlv]
    omega
   ·simp [aM,wk2,wk1,wkM,Fr.get]
  ·have hk':k=l.length:=by simp at hc;omega
   subst hk'
   rw [List.take_length]
   simp only [go_sem]
   refine ⟨?_,by repeat first|exact .refl _|refine .push ?_ _,hcl1 _,?_⟩
   ·simp [wk,wk2,wk1,ak]
   ·simp [zns,znv]
def kK:List AV→AHeap→(AV→Prop)→Prop
 |[],_,K=>K (.agg (aP 4 186 45))
 |_,_,_=>False
theorem ww:EntOk Tryz.prog 233 (Ent.pure kK):=by
 refine Ype fun _ H K h=>?_
 unfold kK at h
 split at h
 rotate_left
 ·exact h.elim
 refine ⟨_,h,?_⟩
 refine ACalls.fW ag tNq Tryz.func233 [.cell 0 336] (nrq _) (T:=af []) (h:=fun hcl hlt=>?_)
 clear hlt
 simp only [go_sem,aP]
 exact Z8
def yO:=eW (br) uX im
def Du:=kF 151 3 (br) uX im
theorem D9:EntOk Tryz.prog 151 (Ent.effect yO):=by
 unfold yO
 refine EntOk.effect fun args H K h=>?_
 unfold eW at h
 split at h
 rotate_left
 ·exact h.elim
 rename_i id x
 obtain ⟨q,s,a,⟨hW,rfl,ha,hl⟩,hK⟩:=h
 refine ⟨_,_,hK,?_⟩
 clear hK
 have hF:=hW.facts
 have hcl0:=hW.closed (t:=s.add (im a))
 have hid:=glq hW.o
 have hq:=glq hW.bu
 refine ACalls.fW ag (tCq fE (tCq lL tNq)) Tryz.func151 [] (by rw [ai];omega) (T:=af []) (h:=fun hcl hlt=>?_)
 clear hlt
 have hcl1:=hcl0 hcl
 unfold im at hl hcl1 ⊢
 rw [← am,← am] at hl hcl1 ⊢
 have hl3:=hl
 have hl2:=aE hl3
 have hl1:=aE hl2
 simp only [go_sem,br,ai,au]
 refine ek (.inr rfl) (hW.push _) hl1 ?_
 rw [hF.p0]
 simp only [go_sem,br,ai,au]
 refine ox (ha) ((hW.next _).push _) hl2 ?_
 rw [hF.p1]
 simp only [go_sem,br,ai,au]
 refine ek (.inl rfl) ((hW.next _).push _) hl3 ?_
 rw [hF.p1]
 try simp only [go_sem,br,ai,au]
 exact Z7
theorem sQ:EntOk Tryz.prog 62 (Ent.effect Du):=ju AN (fun _ x=>ks x) (fun _=>⟨_,rfl,rfl,rfl⟩) fun wf sz c ok g ew es ec eo eg hone hlt' hag id most r q s l H hW ha hl=>by
 refine ACalls.fW ag (tCq bO (tCq D9 tNq)) Tryz.func62 [] (by rw [ai];omega) (T:=af [(2,[[],[],[],[],[],[],[],[],[4,7],[],[],[4,7]])]) (h:=fun hcl hlt=>?_)
 have hF:=hW.facts
 have hcl1:=fun t=>hW.closed (t:=t) hcl
 have hid:=glq hW.o
 have hq:=glq hW.bu
 have hll:=fB hone hl
 obtain ⟨b,sl,sf,sa⟩:=s
 have hne:=aL hid
 have hneq:=aL hq
 have n1:(id=q)=False:=eq_false hW.ne
 have n2:(q=id)=False:=eq_false fun e=>hW.ne e.symm
 have hcs:=ax hW.o
 have hb0:=hW.bu
 have hi0:=hW.o
 have hnn:=hW.ne
 have hlb:b.length≤ce:=aE hl
 rw [aZ] at hlb
 dsimp only at hcs hb0 hi0 hlb
 have lw2:=cn (l.length:Int) 2
 clear hlt
 have hcm:=fun cs=>@al H id cs hid
 have hA:=fun X Y=>@bI H id q X Y hnn hid
 have hB:=fun X=>cE (X:=X) hnn hb0
 have eh:=fun X Y Z=>@cD H id q X Y Z
 have hL2:sl=true→(sl||decide ((l.length:Int) > most))=true:=fun h=>by rw [h,Bool.true_or]
 have hL3:sl=false→decide ((l.length:Int) > most)=(sl||decide ((l.length:Int) > most)):=fun h=>by rw [h,Bool.false_or]
 have hst:=fC (H:=H) (id:=id) (q:=q) (b:=b) (sl:=sl) (sf:=sf) (sa:=sa) (n:=l.length) (most:=most)
 have hS1:=hW.next ((⟨b,sl,sf,sa⟩:Enc).add (ei l.length most))
 have htot:(((⟨b,sl,sf,sa⟩:Enc).add (ei l.length most)).add (bD g l))=(⟨b,sl,sf,sa⟩:Enc).add (bC g most l):=by rw [am];rfl
 rw [← htot] at hl ⊢
 generalize ((⟨b,sl,sf,sa⟩:Enc).add (ei l.length most))=s1 at *
 generalize (sl||decide ((l.length:Int) > most))=L at *
 have hlv:∀ n,(AV.slice .any sz (l.map c)).lt n:=fun n=>aA (hlt' n)
 have hlc:=fun n=>@eH n most wf r
 cases sl
 case' true =>
  rw [hL2 rfl] at hst
  simp only [go_sem,byq,hne,hneq,n1,n2,hcs,hcm,hA,hB,eh,hi0,hb0,aD,ybb]
 case' false =>
  simp only [go_sem,byq,hne,hneq,n1,n2,hcs,hcm,hA,hB,eh,hi0,hb0,aD,ybb,hL3 rfl]
 all_goals
  (repeat with_reducible refine And.intro (by first|assumption|decide|omega|exact ⟨by omega,by omega⟩) ?_)
  refine aq (A:=Nat) (fun k=>[(0,.ptr id 0),(4,.ptr H.nx 0),(33,.slice .any sz (l.map c)),(34,.int .i64 (l.length:Int)),(35,.int .i64 (k:Int))])
   (fun k=>(swH H id q (s1.add (bD g (l.take k)))).push (.cells (aP most wf r))) (fun k=>k≤l.length) (fun k=>l.length - k) 0 (by omega) ?_ fun k hk=>?_
  ·rw [yar,bD,ej,hst]
   refine ⟨by simp only [zkq,zkv,zle,zlf,ai];omega,by repeat first|exact .refl _|refine .push ?_ _,?_,?_,?_⟩
   ·rw [← hst];exact aj (hcl1 _) (hlc _)
   ·simp [ltF,zle,zlf,znn,znf,hlv]
    omega
   ·simp [aM,wk2,wk1,wkM,Fr.get]
  simp only [go_sem]
  refine ae (fun hc=>?_) (fun hc=>?_)
  ·have hk':k<l.length:=by simp at hc;omega
   obtain ⟨x,hx⟩:∃ x,x=l[k]:=⟨_,rfl⟩
   have hg:=av (f:=c) (l:=l) (k:=k) (x:=x) (by rw [gQq hk',hx])
   have e5:=Yk5 k
   have hxo:=ha x (by rw [hx];exact gMq hk')
   obtain ⟨es',hlk⟩:=eC (g:=g) hk' hx hl
   have hSk:=hW.next (s1.add (bD g (l.take k)))
   obtain ⟨cs,hcc,hcl3,hall⟩:=hag x
   have hsp:∀ zs:List AV,zs.length=sz→splice zs 0 cs=cs:=fun zs hz=>dX (hz.trans hcl3.symm)
   have hts:List.take sz cs=cs:=ybc (by omega)
   rw [hcc] at hg
   clear hag
   subst ew es ec eo eg
   simp only [go_sem,iNq,ybb,hg,hcl3,hts,hall,hsp,if_true,yaz,yba,ai,aP,aZ]
   refine ⟨by omega,?_⟩
   rw [← hcc]
   refine n9 hxo (hSk.push2 _ _) hlk ?_
   rw [hF.p2,es']
   simp only [go_sem,e5]
   refine ⟨k+1,by omega,by omega,by simp only [zkq,zkv,zle,ai];omega,by repeat first|exact .refl _|refine .push ?_ _,aj (hcl1 _) (hlc _),?_,?_⟩
   ·simp [ltF,zle,ai,znn,znf,hlv]
    omega
   ·simp [aM,wk2,wk1,wkM,Fr.get]
  ·have hk':k=l.length:=by simp at hc;omega
   subst hk'
   rw [List.take_length]
   simp only [go_sem]
   refine ⟨?_,by repeat first|exact .refl _|refine .push ?_ _,hcl1 _,?_⟩
   ·simp [wk,wk2,wk1,ak]
   ·simp [zns,znv]
def dl:List AV→AHeap→(AV→Prop)→Prop
 |[],_,K=>K (.agg (aP 32 151 153))
 |_,_,_=>False
theorem od:EntOk Tryz.prog 63 (Ent.pure dl):=by
 refine Ype fun _ H K h=>?_
 unfold dl at h
 split at h
 rotate_left
 ·exact h.elim
 refine ⟨_,h,?_⟩
 refine ACalls.fW ag tNq Tryz.func63 [.cell 0 136] (nrq _) (T:=af []) (h:=fun hcl hlt=>?_)
 clear hlt
 simp only [go_sem,aP]
 exact Z8
def yA:=eW (bW) rn me
def Bu:=kF 222 5 (bW) rn me
theorem BV:EntOk Tryz.prog 222 (Ent.effect yA):=by
 unfold yA
 refine EntOk.effect fun args H K h=>?_
 unfold eW at h
 split at h
 rotate_left
 ·exact h.elim
 rename_i id x
 obtain ⟨q,s,a,⟨hW,rfl,ha,hl⟩,hK⟩:=h
 refine ⟨_,_,hK,?_⟩
 clear hK
 have hF:=hW.facts
 have hcl0:=hW.closed (t:=s.add (me a))
 have hid:=glq hW.o
 have hq:=glq hW.bu
 refine ACalls.fW ag (tCq tU (tCq fE tNq)) Tryz.func222 [] (by rw [ai];omega) (T:=af []) (h:=fun hcl hlt=>?_)
 clear hlt
 have hcl1:=hcl0 hcl
 unfold me at hl hcl1 ⊢
 rw [← am,← am] at hl hcl1 ⊢
 have hl3:=hl
 have hl2:=aE hl3
 have hl1:=aE hl2
 simp only [go_sem,bW,vc,ai,au]
 refine yr (ha.1) (hW.push _) hl1 ?_
 rw [hF.p0]
 simp only [go_sem,bW,vc,ai,au]
 refine yr (ha.2) ((hW.next _).push _) hl2 ?_
 rw [hF.p1]
 simp only [go_sem,bW,vc,ai,au]
 refine ek (.inr rfl) ((hW.next _).push _) hl3 ?_
 rw [hF.p1]
 try simp only [go_sem,bW,vc,ai,au]
 exact Z7
theorem Bj:EntOk Tryz.prog 161 (Ent.effect Bu):=ju CP (fun _ x=>ki x) (fun _=>⟨_,rfl,rfl,rfl⟩) fun wf sz c ok g ew es ec eo eg hone hlt' hag id most r q s l H hW ha hl=>by
 refine ACalls.fW ag (tCq bO (tCq BV tNq)) Tryz.func161 [] (by rw [ai];omega) (T:=af [(2,[[],[],[],[],[],[],[],[],[4,7],[],[],[4,7]])]) (h:=fun hcl hlt=>?_)
 have hF:=hW.facts
 have hcl1:=fun t=>hW.closed (t:=t) hcl
 have hid:=glq hW.o
 have hq:=glq hW.bu
 have hll:=fB hone hl
 obtain ⟨b,sl,sf,sa⟩:=s
 have hne:=aL hid
 have hneq:=aL hq
 have n1:(id=q)=False:=eq_false hW.ne
 have n2:(q=id)=False:=eq_false fun e=>hW.ne e.symm
 have hcs:=ax hW.o
 have hb0:=hW.bu
 have hi0:=hW.o
 have hnn:=hW.ne
 have hlb:b.length≤ce:=aE hl
 rw [aZ] at hlb
 dsimp only at hcs hb0 hi0 hlb
 have lw2:=cn (l.length:Int) 2
 clear hlt
 have hcm:=fun cs=>@al H id cs hid
 have hA:=fun X Y=>@bI H id q X Y hnn hid
 have hB:=fun X=>cE (X:=X) hnn hb0
 have eh:=fun X Y Z=>@cD H id q X Y Z
 have hL2:sl=true→(sl||decide ((l.length:Int) > most))=true:=fun h=>by rw [h,Bool.true_or]
 have hL3:sl=false→decide ((l.length:Int) > most)=(sl||decide ((l.length:Int) > most)):=fun h=>by rw [h,Bool.false_or]
 have hst:=fC (H:=H) (id:=id) (q:=q) (b:=b) (sl:=sl) (sf:=sf) (sa:=sa) (n:=l.length) (most:=most)
 have hS1:=hW.next ((⟨b,sl,sf,sa⟩:Enc).add (ei l.length most))
 have htot:(((⟨b,sl,sf,sa⟩:Enc).add (ei l.length most)).add (bD g l))=(⟨b,sl,sf,sa⟩:Enc).add (bC g most l):=by rw [am];rfl
 rw [← htot] at hl ⊢
 generalize ((⟨b,sl,sf,sa⟩:Enc).add (ei l.length most))=s1 at *
 generalize (sl||decide ((l.length:Int) > most))=L at *
 have hlv:∀ n,(AV.slice .any sz (l.map c)).lt n:=fun n=>aA (hlt' n)
 have hlc:=fun n=>@eH n most wf r
 cases sl
 case' true =>
  rw [hL2 rfl] at hst
  simp only [go_sem,byq,hne,hneq,n1,n2,hcs,hcm,hA,hB,eh,hi0,hb0,aD,ybb]
 case' false =>
  simp only [go_sem,byq,hne,hneq,n1,n2,hcs,hcm,hA,hB,eh,hi0,hb0,aD,ybb,hL3 rfl]
 all_goals
  (repeat with_reducible refine And.intro (by first|assumption|decide|omega|exact ⟨by omega,by omega⟩) ?_)
  refine aq (A:=Nat) (fun k=>[(0,.ptr id 0),(4,.ptr H.nx 0),(33,.slice .any sz (l.map c)),(34,.int .i64 (l.length:Int)),(35,.int .i64 (k:Int))])
   (fun k=>(swH H id q (s1.add (bD g (l.take k)))).push (.cells (aP most wf r))) (fun k=>k≤l.length) (fun k=>l.length - k) 0 (by omega) ?_ fun k hk=>?_
  ·rw [yar,bD,ej,hst]
   refine ⟨by simp only [zkq,zkv,zle,zlf,ai];omega,by repeat first|exact .refl _|refine .push ?_ _,?_,?_,?_⟩
   ·rw [← hst];exact aj (hcl1 _) (hlc _)
   ·simp [ltF,zle,zlf,znn,znf,hlv]
    omega
   ·simp [aM,wk2,wk1,wkM,Fr.get]
  simp only [go_sem]
  refine ae (fun hc=>?_) (fun hc=>?_)
  ·have hk':k<l.length:=by simp at hc;omega
   obtain ⟨x,hx⟩:∃ x,x=l[k]:=⟨_,rfl⟩
   have hg:=av (f:=c) (l:=l) (k:=k) (x:=x) (by rw [gQq hk',hx])
   have e5:=Yk5 k
   have hxo:=ha x (by rw [hx];exact gMq hk')
   obtain ⟨es',hlk⟩:=eC (g:=g) hk' hx hl
   have hSk:=hW.next (s1.add (bD g (l.take k)))
   obtain ⟨cs,hcc,hcl3,hall⟩:=hag x
   have hsp:∀ zs:List AV,zs.length=sz→splice zs 0 cs=cs:=fun zs hz=>dX (hz.trans hcl3.symm)
   have hts:List.take sz cs=cs:=ybc (by omega)
   rw [hcc] at hg
   clear hag
   subst ew es ec eo eg
   simp only [go_sem,iNq,ybb,hg,hcl3,hts,hall,hsp,if_true,yaz,yba,ai,aP,aZ]
   refine ⟨by omega,?_⟩
   rw [← hcc]
   refine n9 hxo (hSk.push2 _ _) hlk ?_
   rw [hF.p2,es']
   simp only [go_sem,e5]
   refine ⟨k+1,by omega,by omega,by simp only [zkq,zkv,zle,ai];omega,by repeat first|exact .refl _|refine .push ?_ _,aj (hcl1 _) (hlc _),?_,?_⟩
   ·simp [ltF,zle,ai,znn,znf,hlv]
    omega
   ·simp [aM,wk2,wk1,wkM,Fr.get]
  ·have hk':k=l.length:=by simp at hc;omega
   subst hk'
   rw [List.take_length]
   simp only [go_sem]
   refine ⟨?_,by repeat first|exact .refl _|refine .push ?_ _,hcl1 _,?_⟩
   ·simp [wk,wk2,wk1,ak]
   ·simp [zns,znv]
def j8:List AV→AHeap→(AV→Prop)→Prop
 |[],_,K=>K (.agg (aP 6 222 224))
 |_,_,_=>False
theorem wo:EntOk Tryz.prog 162 (Ent.pure j8):=by
 refine Ype fun _ H K h=>?_
 unfold j8 at h
 split at h
 rotate_left
 ·exact h.elim
 refine ⟨_,h,?_⟩
 refine ACalls.fW ag tNq Tryz.func162 [.cell 0 273] (nrq _) (T:=af []) (h:=fun hcl hlt=>?_)
 clear hlt
 simp only [go_sem,aP]
 exact Z8
theorem A7:ti Tryz.prog 280=some ⟨.struct [(0,3,false),(1,277,false),(2,278,false)],3,24,.agg [.int .i64 0,.nilf,.nilf]⟩:=by kernel_rfl
theorem Da:ti Tryz.prog 277=some ⟨.func,1,8,.nilf⟩:=by kernel_rfl
theorem BP:ti Tryz.prog 278=some ⟨.func,1,8,.nilf⟩:=by kernel_rfl
theorem Ax:ti Tryz.prog 286=some ⟨.struct [(0,3,false),(1,283,false),(2,284,false)],3,24,.agg [.int .i64 0,.nilf,.nilf]⟩:=by kernel_rfl
theorem BE:ti Tryz.prog 283=some ⟨.func,1,8,.nilf⟩:=by kernel_rfl
theorem EH:ti Tryz.prog 284=some ⟨.func,1,8,.nilf⟩:=by kernel_rfl
theorem AA:ti Tryz.prog 294=some ⟨.struct [(0,3,false),(1,291,false),(2,292,false)],3,24,.agg [.int .i64 0,.nilf,.nilf]⟩:=by kernel_rfl
theorem Ej:ti Tryz.prog 291=some ⟨.func,1,8,.nilf⟩:=by kernel_rfl
theorem CD:ti Tryz.prog 292=some ⟨.func,1,8,.nilf⟩:=by kernel_rfl
theorem Aa:ti Tryz.prog 173=some ⟨.struct [(0,3,false),(1,170,false),(2,171,false)],3,24,.agg [.int .i64 0,.nilf,.nilf]⟩:=by kernel_rfl
theorem Di:ti Tryz.prog 170=some ⟨.func,1,8,.nilf⟩:=by kernel_rfl
theorem Cs:ti Tryz.prog 171=some ⟨.func,1,8,.nilf⟩:=by kernel_rfl
theorem z8:ti Tryz.prog 188=some ⟨.struct [(0,3,false),(1,185,false),(2,186,false)],3,24,.agg [.int .i64 0,.nilf,.nilf]⟩:=by kernel_rfl
theorem CM:ti Tryz.prog 185=some ⟨.func,1,8,.nilf⟩:=by kernel_rfl
theorem BJ:ti Tryz.prog 186=some ⟨.func,1,8,.nilf⟩:=by kernel_rfl
attribute [go_sem] A7 Da BP Ax BE EH AA Ej CD Aa Di Cs z8 CM BJ
def yK:=eW (bE) uA jx
def Dy:=kF 225 2 (bE) uA jx
theorem BM:EntOk Tryz.prog 225 (Ent.effect yK):=by
 unfold yK
 refine EntOk.effect fun args H K h=>?_
 unfold eW at h
 split at h
 rotate_left
 ·exact h.elim
 rename_i id x
 obtain ⟨q,s,a,⟨hW,rfl,ha,hl⟩,hK⟩:=h
 refine ⟨_,_,hK,?_⟩
 clear hK
 have hF:=hW.facts
 have hcl0:=hW.closed (t:=s.add (jx a))
 have hid:=glq hW.o
 have hq:=glq hW.bu
 refine ACalls.fW ag (tCq lL (tCq fE tNq)) Tryz.func225 [] (by rw [ai];omega) (T:=af []) (h:=fun hcl hlt=>?_)
 clear hlt
 have hcl1:=hcl0 hcl
 unfold jx at hl hcl1 ⊢
 rw [← am] at hl hcl1 ⊢
 have hl2:=hl
 have hl1:=aE hl2
 simp only [go_sem,bE,ai,au]
 refine ox (ha) (hW.push _) hl1 ?_
 rw [hF.p0]
 simp only [go_sem,bE,ai,au]
 refine ek (.inl rfl) ((hW.next _).push _) hl2 ?_
 rw [hF.p1]
 try simp only [go_sem,bE,ai,au]
 exact Z7
theorem Ag:EntOk Tryz.prog 166 (Ent.effect Dy):=ju A2 (fun _ x=>jn x) (fun _=>⟨_,rfl,rfl,rfl⟩) fun wf sz c ok g ew es ec eo eg hone hlt' hag id most r q s l H hW ha hl=>by
 refine ACalls.fW ag (tCq bO (tCq BM tNq)) Tryz.func166 [] (by rw [ai];omega) (T:=af [(2,[[],[],[],[],[],[],[],[],[4,7],[],[],[4,7]])]) (h:=fun hcl hlt=>?_)
 have hF:=hW.facts
 have hcl1:=fun t=>hW.closed (t:=t) hcl
 have hid:=glq hW.o
 have hq:=glq hW.bu
 have hll:=fB hone hl
 obtain ⟨b,sl,sf,sa⟩:=s
 have hne:=aL hid
 have hneq:=aL hq
 have n1:(id=q)=False:=eq_false hW.ne
 have n2:(q=id)=False:=eq_false fun e=>hW.ne e.symm
 have hcs:=ax hW.o
 have hb0:=hW.bu
 have hi0:=hW.o
 have hnn:=hW.ne
 have hlb:b.length≤ce:=aE hl
 rw [aZ] at hlb
 dsimp only at hcs hb0 hi0 hlb
 have lw2:=cn (l.length:Int) 2
 clear hlt
 have hcm:=fun cs=>@al H id cs hid
 have hA:=fun X Y=>@bI H id q X Y hnn hid
 have hB:=fun X=>cE (X:=X) hnn hb0
 have eh:=fun X Y Z=>@cD H id q X Y Z
 have hL2:sl=true→(sl||decide ((l.length:Int) > most))=true:=fun h=>by rw [h,Bool.true_or]
 have hL3:sl=false→decide ((l.length:Int) > most)=(sl||decide ((l.length:Int) > most)):=fun h=>by rw [h,Bool.false_or]
 have hst:=fC (H:=H) (id:=id) (q:=q) (b:=b) (sl:=sl) (sf:=sf) (sa:=sa) (n:=l.length) (most:=most)
 have hS1:=hW.next ((⟨b,sl,sf,sa⟩:Enc).add (ei l.length most))
 have htot:(((⟨b,sl,sf,sa⟩:Enc).add (ei l.length most)).add (bD g l))=(⟨b,sl,sf,sa⟩:Enc).add (bC g most l):=by rw [am];rfl
 rw [← htot] at hl ⊢
 generalize ((⟨b,sl,sf,sa⟩:Enc).add (ei l.length most))=s1 at *
 generalize (sl||decide ((l.length:Int) > most))=L at *
 have hlv:∀ n,(AV.slice .any sz (l.map c)).lt n:=fun n=>aA (hlt' n)
 have hlc:=fun n=>@eH n most wf r
 cases sl
 case' true =>
  rw [hL2 rfl] at hst
  simp only [go_sem,byq,hne,hneq,n1,n2,hcs,hcm,hA,hB,eh,hi0,hb0,aD,ybb]
 case' false =>
  simp only [go_sem,byq,hne,hneq,n1,n2,hcs,hcm,hA,hB,eh,hi0,hb0,aD,ybb,hL3 rfl]
 all_goals
  (repeat with_reducible refine And.intro (by first|assumption|decide|omega|exact ⟨by omega,by omega⟩) ?_)
  refine aq (A:=Nat) (fun k=>[(0,.ptr id 0),(4,.ptr H.nx 0),(33,.slice .any sz (l.map c)),(34,.int .i64 (l.length:Int)),(35,.int .i64 (k:Int))])
   (fun k=>(swH H id q (s1.add (bD g (l.take k)))).push (.cells (aP most wf r))) (fun k=>k≤l.length) (fun k=>l.length - k) 0 (by omega) ?_ fun k hk=>?_
  ·rw [yar,bD,ej,hst]
   refine ⟨by simp only [zkq,zkv,zle,zlf,ai];omega,by repeat first|exact .refl _|refine .push ?_ _,?_,?_,?_⟩
   ·rw [← hst];exact aj (hcl1 _) (hlc _)
   ·simp [ltF,zle,zlf,znn,znf,hlv]
    omega
   ·simp [aM,wk2,wk1,wkM,Fr.get]
  simp only [go_sem]
  refine ae (fun hc=>?_) (fun hc=>?_)
  ·have hk':k<l.length:=by simp at hc;omega
   obtain ⟨x,hx⟩:∃ x,x=l[k]:=⟨_,rfl⟩
   have hg:=av (f:=c) (l:=l) (k:=k) (x:=x) (by rw [gQq hk',hx])
   have e5:=Yk5 k
   have hxo:=ha x (by rw [hx];exact gMq hk')
   obtain ⟨es',hlk⟩:=eC (g:=g) hk' hx hl
   have hSk:=hW.next (s1.add (bD g (l.take k)))
   obtain ⟨cs,hcc,hcl3,hall⟩:=hag x
   have hsp:∀ zs:List AV,zs.length=sz→splice zs 0 cs=cs:=fun zs hz=>dX (hz.trans hcl3.symm)
   have hts:List.take sz cs=cs:=ybc (by omega)
   rw [hcc] at hg
   clear hag
   subst ew es ec eo eg
   simp only [go_sem,iNq,ybb,hg,hcl3,hts,hall,hsp,if_true,yaz,yba,ai,aP,aZ]
   refine ⟨by omega,?_⟩
   rw [← hcc]
   refine n9 hxo (hSk.push2 _ _) hlk ?_
   rw [hF.p2,es']
   simp only [go_sem,e5]
   refine ⟨k+1,by omega,by omega,by simp only [zkq,zkv,zle,ai];omega,by repeat first|exact .refl _|refine .push ?_ _,aj (hcl1 _) (hlc _),?_,?_⟩
   ·simp [ltF,zle,ai,znn,znf,hlv]
    omega
   ·simp [aM,wk2,wk1,wkM,Fr.get]
  ·have hk':k=l.length:=by simp at hc;omega
   subst hk'
   rw [List.take_length]
   simp only [go_sem]
   refine ⟨?_,by repeat first|exact .refl _|refine .push ?_ _,hcl1 _,?_⟩
   ·simp [wk,wk2,wk1,ak]
   ·simp [zns,znv]
def j0:List AV→AHeap→(AV→Prop)→Prop
 |[],_,K=>K (.agg (aP 4 225 226))
 |_,_,_=>False
theorem vN:EntOk Tryz.prog 167 (Ent.pure j0):=by
 refine Ype fun _ H K h=>?_
 unfold j0 at h
 split at h
 rotate_left
 ·exact h.elim
 refine ⟨_,h,?_⟩
 refine ACalls.fW ag tNq Tryz.func167 [.cell 0 280] (nrq _) (T:=af []) (h:=fun hcl hlt=>?_)
 clear hlt
 simp only [go_sem,aP]
 exact Z8
def yT:=eW (bY) xk ma
def Dg:=kF 227 6 (bY) xk ma
theorem B6:EntOk Tryz.prog 227 (Ent.effect yT):=by
 unfold yT
 refine EntOk.effect fun args H K h=>?_
 unfold eW at h
 split at h
 rotate_left
 ·exact h.elim
 rename_i id x
 obtain ⟨q,s,a,⟨hW,rfl,ha,hl⟩,hK⟩:=h
 refine ⟨_,_,hK,?_⟩
 clear hK
 have hF:=hW.facts
 have hcl0:=hW.closed (t:=s.add (ma a))
 have hid:=glq hW.o
 have hq:=glq hW.bu
 refine ACalls.fW ag (tCq fE (tCq tU tNq)) Tryz.func227 [] (by rw [ai];omega) (T:=af []) (h:=fun hcl hlt=>?_)
 clear hlt
 have hcl1:=hcl0 hcl
 unfold ma at hl hcl1 ⊢
 rw [← am,← am,← am,← am] at hl hcl1 ⊢
 have hl5:=hl
 have hl4:=aE hl5
 have hl3:=aE hl4
 have hl2:=aE hl3
 have hl1:=aE hl2
 simp only [go_sem,bY,vc,ai,au]
 refine ek (.inl rfl) (hW.push _) hl1 ?_
 rw [hF.p0]
 simp only [go_sem,bY,vc,ai,au]
 refine ek (.inr rfl) ((hW.next _).push _) hl2 ?_
 rw [hF.p1]
 simp only [go_sem,bY,vc,ai,au]
 refine ek (.inl rfl) ((hW.next _).push _) hl3 ?_
 rw [hF.p1]
 simp only [go_sem,bY,vc,ai,au]
 refine ek (.inr rfl) ((hW.next _).push _) hl4 ?_
 rw [hF.p1]
 simp only [go_sem,bY,vc,ai,au]
 refine yr (ha) ((hW.next _).push _) hl5 ?_
 rw [hF.p1]
 try simp only [go_sem,bY,vc,ai,au]
 exact Z7
theorem Ah:EntOk Tryz.prog 168 (Ent.effect Dg):=ju Cj (fun _ x=>kg x) (fun _=>⟨_,rfl,rfl,rfl⟩) fun wf sz c ok g ew es ec eo eg hone hlt' hag id most r q s l H hW ha hl=>by
 refine ACalls.fW ag (tCq bO (tCq B6 tNq)) Tryz.func168 [] (by rw [ai];omega) (T:=af [(2,[[],[],[],[],[],[],[],[],[4,7],[],[],[4,7]])]) (h:=fun hcl hlt=>?_)
 have hF:=hW.facts
 have hcl1:=fun t=>hW.closed (t:=t) hcl
 have hid:=glq hW.o
 have hq:=glq hW.bu
 have hll:=fB hone hl
 obtain ⟨b,sl,sf,sa⟩:=s
 have hne:=aL hid
 have hneq:=aL hq
 have n1:(id=q)=False:=eq_false hW.ne
 have n2:(q=id)=False:=eq_false fun e=>hW.ne e.symm
 have hcs:=ax hW.o
 have hb0:=hW.bu
 have hi0:=hW.o
 have hnn:=hW.ne
 have hlb:b.length≤ce:=aE hl
 rw [aZ] at hlb
 dsimp only at hcs hb0 hi0 hlb
 have lw2:=cn (l.length:Int) 2
 clear hlt
 have hcm:=fun cs=>@al H id cs hid
 have hA:=fun X Y=>@bI H id q X Y hnn hid
 have hB:=fun X=>cE (X:=X) hnn hb0
 have eh:=fun X Y Z=>@cD H id q X Y Z
 have hL2:sl=true→(sl||decide ((l.length:Int) > most))=true:=fun h=>by rw [h,Bool.true_or]
 have hL3:sl=false→decide ((l.length:Int) > most)=(sl||decide ((l.length:Int) > most)):=fun h=>by rw [h,Bool.false_or]
 have hst:=fC (H:=H) (id:=id) (q:=q) (b:=b) (sl:=sl) (sf:=sf) (sa:=sa) (n:=l.length) (most:=most)
 have hS1:=hW.next ((⟨b,sl,sf,sa⟩:Enc).add (ei l.length most))
 have htot:(((⟨b,sl,sf,sa⟩:Enc).add (ei l.length most)).add (bD g l))=(⟨b,sl,sf,sa⟩:Enc).add (bC g most l):=by rw [am];rfl
 rw [← htot] at hl ⊢
 generalize ((⟨b,sl,sf,sa⟩:Enc).add (ei l.length most))=s1 at *
 generalize (sl||decide ((l.length:Int) > most))=L at *
 have hlv:∀ n,(AV.slice .any sz (l.map c)).lt n:=fun n=>aA (hlt' n)
 have hlc:=fun n=>@eH n most wf r
 cases sl
 case' true =>
  rw [hL2 rfl] at hst
  simp only [go_sem,byq,hne,hneq,n1,n2,hcs,hcm,hA,hB,eh,hi0,hb0,aD,ybb]
 case' false =>
  simp only [go_sem,byq,hne,hneq,n1,n2,hcs,hcm,hA,hB,eh,hi0,hb0,aD,ybb,hL3 rfl]
 all_goals
  (repeat with_reducible refine And.intro (by first|assumption|decide|omega|exact ⟨by omega,by omega⟩) ?_)
  refine aq (A:=Nat) (fun k=>[(0,.ptr id 0),(4,.ptr H.nx 0),(33,.slice .any sz (l.map c)),(34,.int .i64 (l.length:Int)),(35,.int .i64 (k:Int))])
   (fun k=>(swH H id q (s1.add (bD g (l.take k)))).push (.cells (aP most wf r))) (fun k=>k≤l.length) (fun k=>l.length - k) 0 (by omega) ?_ fun k hk=>?_
  ·rw [yar,bD,ej,hst]
   refine ⟨by simp only [zkq,zkv,zle,zlf,ai];omega,by repeat first|exact .refl _|refine .push ?_ _,?_,?_,?_⟩
   ·rw [← hst];exact aj (hcl1 _) (hlc _)
   ·simp [ltF,zle,zlf,znn,znf,hlv]
    omega
   ·simp [aM,wk2,wk1,wkM,Fr.get]
  simp only [go_sem]
  refine ae (fun hc=>?_) (fun hc=>?_)
  ·have hk':k<l.length:=by simp at hc;omega
   obtain ⟨x,hx⟩:∃ x,x=l[k]:=⟨_,rfl⟩
   have hg:=av (f:=c) (l:=l) (k:=k) (x:=x) (by rw [gQq hk',hx])
   have e5:=Yk5 k
   have hxo:=ha x (by rw [hx];exact gMq hk')
   obtain ⟨es',hlk⟩:=eC (g:=g) hk' hx hl
   have hSk:=hW.next (s1.add (bD g (l.take k)))
   obtain ⟨cs,hcc,hcl3,hall⟩:=hag x
   have hsp:∀ zs:List AV,zs.length=sz→splice zs 0 cs=cs:=fun zs hz=>dX (hz.trans hcl3.symm)
   have hts:List.take sz cs=cs:=ybc (by omega)
   rw [hcc] at hg
   clear hag
   subst ew es ec eo eg
   simp only [go_sem,iNq,ybb,hg,hcl3,hts,hall,hsp,if_true,yaz,yba,ai,aP,aZ]
   refine ⟨by omega,?_⟩
   rw [← hcc]
   refine n9 hxo (hSk.push2 _ _) hlk ?_
   rw [hF.p2,es']
   simp only [go_sem,e5]
   refine ⟨k+1,by omega,by omega,by simp only [zkq,zkv,zle,ai];omega,by repeat first|exact .refl _|refine .push ?_ _,aj (hcl1 _) (hlc _),?_,?_⟩
   ·simp [ltF,zle,ai,znn,znf,hlv]
    omega
   ·simp [aM,wk2,wk1,wkM,Fr.get]
  ·have hk':k=l.length:=by simp at hc;omega
   subst hk'
   rw [List.take_length]
   simp only [go_sem]
   refine ⟨?_,by repeat first|exact .refl _|refine .push ?_ _,hcl1 _,?_⟩
   ·simp [wk,wk2,wk1,ak]
   ·simp [zns,znv]
def kb:List AV→AHeap→(AV→Prop)→Prop
 |[],_,K=>K (.agg (aP 12 227 228))
 |_,_,_=>False
theorem wx:EntOk Tryz.prog 169 (Ent.pure kb):=by
 refine Ype fun _ H K h=>?_
 unfold kb at h
 split at h
 rotate_left
 ·exact h.elim
 refine ⟨_,h,?_⟩
 refine ACalls.fW ag tNq Tryz.func169 [.cell 0 286] (nrq _) (T:=af []) (h:=fun hcl hlt=>?_)
 clear hlt
 simp only [go_sem,aP]
 exact Z8
def yY:=eW (cH) Bv po
def Bt:=kF 229 3 (cH) Bv po
theorem Bp:EntOk Tryz.prog 229 (Ent.effect yY):=by
 unfold yY
 refine EntOk.effect fun args H K h=>?_
 unfold eW at h
 split at h
 rotate_left
 ·exact h.elim
 rename_i id x
 obtain ⟨q,s,a,⟨hW,rfl,ha,hl⟩,hK⟩:=h
 refine ⟨_,_,hK,?_⟩
 clear hK
 have hF:=hW.facts
 have hcl0:=hW.closed (t:=s.add (po a))
 have hid:=glq hW.o
 have hq:=glq hW.bu
 refine ACalls.fW ag (tCq lL (tCq fE tNq)) Tryz.func229 [] (by rw [ai];omega) (T:=af []) (h:=fun hcl hlt=>?_)
 clear hlt
 have hcl1:=hcl0 hcl
 unfold po at hl hcl1 ⊢
 rw [← am,← am] at hl hcl1 ⊢
 have hl3:=hl
 have hl2:=aE hl3
 have hl1:=aE hl2
 simp only [go_sem,cH,ai,au]
 refine ox (ha) (hW.push _) hl1 ?_
 rw [hF.p0]
 simp only [go_sem,cH,ai,au]
 refine ek (.inr rfl) ((hW.next _).push _) hl2 ?_
 rw [hF.p1]
 simp only [go_sem,cH,ai,au]
 refine ek (.inl rfl) ((hW.next _).push _) hl3 ?_
 rw [hF.p1]
 try simp only [go_sem,cH,ai,au]
 exact Z7
theorem Am:EntOk Tryz.prog 174 (Ent.effect Bt):=ju Gj (fun _ x=>lw x) (fun _=>⟨_,rfl,rfl,rfl⟩) fun wf sz c ok g ew es ec eo eg hone hlt' hag id most r q s l H hW ha hl=>by
 refine ACalls.fW ag (tCq bO (tCq Bp tNq)) Tryz.func174 [] (by rw [ai];omega) (T:=af [(2,[[],[],[],[],[],[],[],[],[4,7],[],[],[4,7]])]) (h:=fun hcl hlt=>?_)
 have hF:=hW.facts
 have hcl1:=fun t=>hW.closed (t:=t) hcl
 have hid:=glq hW.o
 have hq:=glq hW.bu
 have hll:=fB hone hl
 obtain ⟨b,sl,sf,sa⟩:=s
 have hne:=aL hid
 have hneq:=aL hq
 have n1:(id=q)=False:=eq_false hW.ne
 have n2:(q=id)=False:=eq_false fun e=>hW.ne e.symm
 have hcs:=ax hW.o
 have hb0:=hW.bu
 have hi0:=hW.o
 have hnn:=hW.ne
 have hlb:b.length≤ce:=aE hl
 rw [aZ] at hlb
 dsimp only at hcs hb0 hi0 hlb
 have lw2:=cn (l.length:Int) 2
 clear hlt
 have hcm:=fun cs=>@al H id cs hid
 have hA:=fun X Y=>@bI H id q X Y hnn hid
 have hB:=fun X=>cE (X:=X) hnn hb0
 have eh:=fun X Y Z=>@cD H id q X Y Z
 have hL2:sl=true→(sl||decide ((l.length:Int) > most))=true:=fun h=>by rw [h,Bool.true_or]
 have hL3:sl=false→decide ((l.length:Int) > most)=(sl||decide ((l.length:Int) > most)):=fun h=>by rw [h,Bool.false_or]
 have hst:=fC (H:=H) (id:=id) (q:=q) (b:=b) (sl:=sl) (sf:=sf) (sa:=sa) (n:=l.length) (most:=most)
 have hS1:=hW.next ((⟨b,sl,sf,sa⟩:Enc).add (ei l.length most))
 have htot:(((⟨b,sl,sf,sa⟩:Enc).add (ei l.length most)).add (bD g l))=(⟨b,sl,sf,sa⟩:Enc).add (bC g most l):=by rw [am];rfl
 rw [← htot] at hl ⊢
 generalize ((⟨b,sl,sf,sa⟩:Enc).add (ei l.length most))=s1 at *
 generalize (sl||decide ((l.length:Int) > most))=L at *
 have hlv:∀ n,(AV.slice .any sz (l.map c)).lt n:=fun n=>aA (hlt' n)
 have hlc:=fun n=>@eH n most wf r
 cases sl
 case' true =>
  rw [hL2 rfl] at hst
  simp only [go_sem,byq,hne,hneq,n1,n2,hcs,hcm,hA,hB,eh,hi0,hb0,aD,ybb]
 case' false =>
  simp only [go_sem,byq,hne,hneq,n1,n2,hcs,hcm,hA,hB,eh,hi0,hb0,aD,ybb,hL3 rfl]
 all_goals
  (repeat with_reducible refine And.intro (by first|assumption|decide|omega|exact ⟨by omega,by omega⟩) ?_)
  refine aq (A:=Nat) (fun k=>[(0,.ptr id 0),(4,.ptr H.nx 0),(33,.slice .any sz (l.map c)),(34,.int .i64 (l.length:Int)),(35,.int .i64 (k:Int))])
   (fun k=>(swH H id q (s1.add (bD g (l.take k)))).push (.cells (aP most wf r))) (fun k=>k≤l.length) (fun k=>l.length - k) 0 (by omega) ?_ fun k hk=>?_
  ·rw [yar,bD,ej,hst]
   refine ⟨by simp only [zkq,zkv,zle,zlf,ai];omega,by repeat first|exact .refl _|refine .push ?_ _,?_,?_,?_⟩
   ·rw [← hst];exact aj (hcl1 _) (hlc _)
   ·simp [ltF,zle,zlf,znn,znf,hlv]
    omega
   ·simp [aM,wk2,wk1,wkM,Fr.get]
  simp only [go_sem]
  refine ae (fun hc=>?_) (fun hc=>?_)
  ·have hk':k<l.length:=by simp at hc;omega
   obtain ⟨x,hx⟩:∃ x,x=l[k]:=⟨_,rfl⟩
   have hg:=av (f:=c) (l:=l) (k:=k) (x:=x) (by rw [gQq hk',hx])
   have e5:=Yk5 k
   have hxo:=ha x (by rw [hx];exact gMq hk')
   obtain ⟨es',hlk⟩:=eC (g:=g) hk' hx hl
   have hSk:=hW.next (s1.add (bD g (l.take k)))
   obtain ⟨cs,hcc,hcl3,hall⟩:=hag x
   have hsp:∀ zs:List AV,zs.length=sz→splice zs 0 cs=cs:=fun zs hz=>dX (hz.trans hcl3.symm)
   have hts:List.take sz cs=cs:=ybc (by omega)
   rw [hcc] at hg
   clear hag
   subst ew es ec eo eg
   simp only [go_sem,iNq,ybb,hg,hcl3,hts,hall,hsp,if_true,yaz,yba,ai,aP,aZ]
   refine ⟨by omega,?_⟩
   rw [← hcc]
   refine n9 hxo (hSk.push2 _ _) hlk ?_
   rw [hF.p2,es']
   simp only [go_sem,e5]
   refine ⟨k+1,by omega,by omega,by simp only [zkq,zkv,zle,ai];omega,by repeat first|exact .refl _|refine .push ?_ _,aj (hcl1 _) (hlc _),?_,?_⟩
   ·simp [ltF,zle,ai,znn,znf,hlv]
    omega
   ·simp [aM,wk2,wk1,wkM,Fr.get]
  ·have hk':k=l.length:=by simp at hc;omega
   subst hk'
   rw [List.take_length]
   simp only [go_sem]
   refine ⟨?_,by repeat first|exact .refl _|refine .push ?_ _,hcl1 _,?_⟩
   ·simp [wk,wk2,wk1,ak]
   ·simp [zns,znv]
def iF:List AV→AHeap→(AV→Prop)→Prop
 |[],_,K=>K (.agg (aP 4 229 230))
 |_,_,_=>False
theorem vz:EntOk Tryz.prog 175 (Ent.pure iF):=by
 refine Ype fun _ H K h=>?_
 unfold iF at h
 split at h
 rotate_left
 ·exact h.elim
 refine ⟨_,h,?_⟩
 refine ACalls.fW ag tNq Tryz.func175 [.cell 0 294] (nrq _) (T:=af []) (h:=fun hcl hlt=>?_)
 clear hlt
 simp only [go_sem,aP]
 exact Z8
def yS:=eW (bx) bS i9
def CJ:=kF 181 2 (bx) bS i9
theorem Dm:EntOk Tryz.prog 181 (Ent.effect yS):=by
 unfold yS
 refine EntOk.effect fun args H K h=>?_
 unfold eW at h
 split at h
 rotate_left
 ·exact h.elim
 rename_i id x
 obtain ⟨q,s,a,⟨hW,rfl,ha,hl⟩,hK⟩:=h
 refine ⟨_,_,hK,?_⟩
 clear hK
 have hF:=hW.facts
 have hcl0:=hW.closed (t:=s.add (i9 a))
 have hid:=glq hW.o
 have hq:=glq hW.bu
 refine ACalls.fW ag (tCq fE tNq) Tryz.func181 [] (by rw [ai];omega) (T:=af []) (h:=fun hcl hlt=>?_)
 clear hlt
 have hcl1:=hcl0 hcl
 unfold i9 at hl hcl1 ⊢
 rw [← am] at hl hcl1 ⊢
 have hl2:=hl
 have hl1:=aE hl2
 simp only [go_sem,bx,ai,au]
 refine ek (.inr rfl) (hW.push _) hl1 ?_
 rw [hF.p0]
 simp only [go_sem,bx,ai,au]
 refine ek (.inr rfl) ((hW.next _).push _) hl2 ?_
 rw [hF.p1]
 try simp only [go_sem,bx,ai,au]
 exact Z7
theorem sV:EntOk Tryz.prog 72 (Ent.effect CJ):=ju AF (fun _ x=>kv x) (fun _=>⟨_,rfl,rfl,rfl⟩) fun wf sz c ok g ew es ec eo eg hone hlt' hag id most r q s l H hW ha hl=>by
 refine ACalls.fW ag (tCq bO (tCq Dm tNq)) Tryz.func72 [] (by rw [ai];omega) (T:=af [(2,[[],[],[],[],[],[],[],[],[4,7],[],[],[4,7]])]) (h:=fun hcl hlt=>?_)
 have hF:=hW.facts
 have hcl1:=fun t=>hW.closed (t:=t) hcl
 have hid:=glq hW.o
 have hq:=glq hW.bu
 have hll:=fB hone hl
 obtain ⟨b,sl,sf,sa⟩:=s
 have hne:=aL hid
 have hneq:=aL hq
 have n1:(id=q)=False:=eq_false hW.ne
 have n2:(q=id)=False:=eq_false fun e=>hW.ne e.symm
 have hcs:=ax hW.o
 have hb0:=hW.bu
 have hi0:=hW.o
 have hnn:=hW.ne
 have hlb:b.length≤ce:=aE hl
 rw [aZ] at hlb
 dsimp only at hcs hb0 hi0 hlb
 have lw2:=cn (l.length:Int) 2
 clear hlt
 have hcm:=fun cs=>@al H id cs hid
 have hA:=fun X Y=>@bI H id q X Y hnn hid
 have hB:=fun X=>cE (X:=X) hnn hb0
 have eh:=fun X Y Z=>@cD H id q X Y Z
 have hL2:sl=true→(sl||decide ((l.length:Int) > most))=true:=fun h=>by rw [h,Bool.true_or]
 have hL3:sl=false→decide ((l.length:Int) > most)=(sl||decide ((l.length:Int) > most)):=fun h=>by rw [h,Bool.false_or]
 have hst:=fC (H:=H) (id:=id) (q:=q) (b:=b) (sl:=sl) (sf:=sf) (sa:=sa) (n:=l.length) (most:=most)
 have hS1:=hW.next ((⟨b,sl,sf,sa⟩:Enc).add (ei l.length most))
 have htot:(((⟨b,sl,sf,sa⟩:Enc).add (ei l.length most)).add (bD g l))=(⟨b,sl,sf,sa⟩:Enc).add (bC g most l):=by rw [am];rfl
 rw [← htot] at hl ⊢
 generalize ((⟨b,sl,sf,sa⟩:Enc).add (ei l.length most))=s1 at *
 generalize (sl||decide ((l.length:Int) > most))=L at *
 have hlv:∀ n,(AV.slice .any sz (l.map c)).lt n:=fun n=>aA (hlt' n)
 have hlc:=fun n=>@eH n most wf r
 cases sl
 case' true =>
  rw [hL2 rfl] at hst
  simp only [go_sem,byq,hne,hneq,n1,n2,hcs,hcm,hA,hB,eh,hi0,hb0,aD,ybb]
 case' false =>
  simp only [go_sem,byq,hne,hneq,n1,n2,hcs,hcm,hA,hB,eh,hi0,hb0,aD,ybb,hL3 rfl]
 all_goals
  (repeat with_reducible refine And.intro (by first|assumption|decide|omega|exact ⟨by omega,by omega⟩) ?_)
  refine aq (A:=Nat) (fun k=>[(0,.ptr id 0),(4,.ptr H.nx 0),(33,.slice .any sz (l.map c)),(34,.int .i64 (l.length:Int)),(35,.int .i64 (k:Int))])
   (fun k=>(swH H id q (s1.add (bD g (l.take k)))).push (.cells (aP most wf r))) (fun k=>k≤l.length) (fun k=>l.length - k) 0 (by omega) ?_ fun k hk=>?_
  ·rw [yar,bD,ej,hst]
   refine ⟨by simp only [zkq,zkv,zle,zlf,ai];omega,by repeat first|exact .refl _|refine .push ?_ _,?_,?_,?_⟩
   ·rw [← hst];exact aj (hcl1 _) (hlc _)
   ·simp [ltF,zle,zlf,znn,znf,hlv]
    omega
   ·simp [aM,wk2,wk1,wkM,Fr.get]
  simp only [go_sem]
  refine ae (fun hc=>?_) (fun hc=>?_)
  ·have hk':k<l.length:=by simp at hc;omega
   obtain ⟨x,hx⟩:∃ x,x=l[k]:=⟨_,rfl⟩
   have hg:=av (f:=c) (l:=l) (k:=k) (x:=x) (by rw [gQq hk',hx])
   have e5:=Yk5 k
   have hxo:=ha x (by rw [hx];exact gMq hk')
   obtain ⟨es',hlk⟩:=eC (g:=g) hk' hx hl
   have hSk:=hW.next (s1.add (bD g (l.take k)))
   obtain ⟨cs,hcc,hcl3,hall⟩:=hag x
   have hsp:∀ zs:List AV,zs.length=sz→splice zs 0 cs=cs:=fun zs hz=>dX (hz.trans hcl3.symm)
   have hts:List.take sz cs=cs:=ybc (by omega)
   rw [hcc] at hg
   clear hag
   subst ew es ec eo eg
   simp only [go_sem,iNq,ybb,hg,hcl3,hts,hall,hsp,if_true,yaz,yba,ai,aP,aZ]
   refine ⟨by omega,?_⟩
   rw [← hcc]
   refine n9 hxo (hSk.push2 _ _) hlk ?_
   rw [hF.p2,es']
   simp only [go_sem,e5]
   refine ⟨k+1,by omega,by omega,by simp only [zkq,zkv,zle,ai];omega,by repeat first|exact .refl _|refine .push ?_ _,aj (hcl1 _) (hlc _),?_,?_⟩
   ·simp [ltF,zle,ai,znn,znf,hlv]
    omega
   ·simp [aM,wk2,wk1,wkM,Fr.get]
  ·have hk':k=l.length:=by simp at hc;omega
   subst hk'
   rw [List.take_length]
   simp only [go_sem]
   refine ⟨?_,by repeat first|exact .refl _|refine .push ?_ _,hcl1 _,?_⟩
   ·simp [wk,wk2,wk1,ak]
   ·simp [zns,znv]
def dn:List AV→AHeap→(AV→Prop)→Prop
 |[],_,K=>K (.agg (aP 12 181 182))
 |_,_,_=>False
theorem oy:EntOk Tryz.prog 73 (Ent.pure dn):=by
 refine Ype fun _ H K h=>?_
 unfold dn at h
 split at h
 rotate_left
 ·exact h.elim
 refine ⟨_,h,?_⟩
 refine ACalls.fW ag tNq Tryz.func73 [.cell 0 173] (nrq _) (T:=af []) (h:=fun hcl hlt=>?_)
 clear hlt
 simp only [go_sem,aP]
 exact Z8
def zu:=eW (cP) bS nE
def Dl:=kF 189 6 (cP) bS nE
theorem DX:EntOk Tryz.prog 189 (Ent.effect zu):=by
 unfold zu
 refine EntOk.effect fun args H K h=>?_
 unfold eW at h
 split at h
 rotate_left
 ·exact h.elim
 rename_i id x
 obtain ⟨q,s,a,⟨hW,rfl,ha,hl⟩,hK⟩:=h
 refine ⟨_,_,hK,?_⟩
 clear hK
 have hF:=hW.facts
 have hcl0:=hW.closed (t:=s.add (nE a))
 have hid:=glq hW.o
 have hq:=glq hW.bu
 refine ACalls.fW ag (tCq fE tNq) Tryz.func189 [] (by rw [ai];omega) (T:=af []) (h:=fun hcl hlt=>?_)
 clear hlt
 have hcl1:=hcl0 hcl
 unfold nE at hl hcl1 ⊢
 rw [← am,← am,← am,← am,← am] at hl hcl1 ⊢
 have hl6:=hl
 have hl5:=aE hl6
 have hl4:=aE hl5
 have hl3:=aE hl4
 have hl2:=aE hl3
 have hl1:=aE hl2
 simp only [go_sem,cP,ai,au]
 refine ek (.inr rfl) (hW.push _) hl1 ?_
 rw [hF.p0]
 simp only [go_sem,cP,ai,au]
 refine ek (.inl rfl) ((hW.next _).push _) hl2 ?_
 rw [hF.p1]
 simp only [go_sem,cP,ai,au]
 refine ek (.inr rfl) ((hW.next _).push _) hl3 ?_
 rw [hF.p1]
 simp only [go_sem,cP,ai,au]
 refine ek (.inl rfl) ((hW.next _).push _) hl4 ?_
 rw [hF.p1]
 simp only [go_sem,cP,ai,au]
 refine ek (.inr rfl) ((hW.next _).push _) hl5 ?_
 rw [hF.p1]
 simp only [go_sem,cP,ai,au]
 refine ek (.inl rfl) ((hW.next _).push _) hl6 ?_
 rw [hF.p1]
 try simp only [go_sem,cP,ai,au]
 exact Z7
theorem tD:EntOk Tryz.prog 76 (Ent.effect Dl):=ju FK (fun _ x=>mq x) (fun _=>⟨_,rfl,rfl,rfl⟩) fun wf sz c ok g ew es ec eo eg hone hlt' hag id most r q s l H hW ha hl=>by
 refine ACalls.fW ag (tCq bO (tCq DX tNq)) Tryz.func76 [] (by rw [ai];omega) (T:=af [(2,[[],[],[],[],[],[],[],[],[4,7],[],[],[4,7]])]) (h:=fun hcl hlt=>?_)
 have hF:=hW.facts
 have hcl1:=fun t=>hW.closed (t:=t) hcl
 have hid:=glq hW.o
 have hq:=glq hW.bu
 have hll:=fB hone hl
 obtain ⟨b,sl,sf,sa⟩:=s
 have hne:=aL hid
 have hneq:=aL hq
 have n1:(id=q)=False:=eq_false hW.ne
 have n2:(q=id)=False:=eq_false fun e=>hW.ne e.symm
 have hcs:=ax hW.o
 have hb0:=hW.bu
 have hi0:=hW.o
 have hnn:=hW.ne
 have hlb:b.length≤ce:=aE hl
 rw [aZ] at hlb
 dsimp only at hcs hb0 hi0 hlb
 have lw2:=cn (l.length:Int) 2
 clear hlt
 have hcm:=fun cs=>@al H id cs hid
 have hA:=fun X Y=>@bI H id q X Y hnn hid
 have hB:=fun X=>cE (X:=X) hnn hb0
 have eh:=fun X Y Z=>@cD H id q X Y Z
 have hL2:sl=true→(sl||decide ((l.length:Int) > most))=true:=fun h=>by rw [h,Bool.true_or]
 have hL3:sl=false→decide ((l.length:Int) > most)=(sl||decide ((l.length:Int) > most)):=fun h=>by rw [h,Bool.false_or]
 have hst:=fC (H:=H) (id:=id) (q:=q) (b:=b) (sl:=sl) (sf:=sf) (sa:=sa) (n:=l.length) (most:=most)
 have hS1:=hW.next ((⟨b,sl,sf,sa⟩:Enc).add (ei l.length most))
 have htot:(((⟨b,sl,sf,sa⟩:Enc).add (ei l.length most)).add (bD g l))=(⟨b,sl,sf,sa⟩:Enc).add (bC g most l):=by rw [am];rfl
 rw [← htot] at hl ⊢
 generalize ((⟨b,sl,sf,sa⟩:Enc).add (ei l.length most))=s1 at *
 generalize (sl||decide ((l.length:Int) > most))=L at *
 have hlv:∀ n,(AV.slice .any sz (l.map c)).lt n:=fun n=>aA (hlt' n)
 have hlc:=fun n=>@eH n most wf r
 cases sl
 case' true =>
  rw [hL2 rfl] at hst
  simp only [go_sem,byq,hne,hneq,n1,n2,hcs,hcm,hA,hB,eh,hi0,hb0,aD,ybb]
 case' false =>
  simp only [go_sem,byq,hne,hneq,n1,n2,hcs,hcm,hA,hB,eh,hi0,hb0,aD,ybb,hL3 rfl]
 all_goals
  (repeat with_reducible refine And.intro (by first|assumption|decide|omega|exact ⟨by omega,by omega⟩) ?_)
  refine aq (A:=Nat) (fun k=>[(0,.ptr id 0),(4,.ptr H.nx 0),(33,.slice .any sz (l.map c)),(34,.int .i64 (l.length:Int)),(35,.int .i64 (k:Int))])
   (fun k=>(swH H id q (s1.add (bD g (l.take k)))).push (.cells (aP most wf r))) (fun k=>k≤l.length) (fun k=>l.length - k) 0 (by omega) ?_ fun k hk=>?_
  ·rw [yar,bD,ej,hst]
   refine ⟨by simp only [zkq,zkv,zle,zlf,ai];omega,by repeat first|exact .refl _|refine .push ?_ _,?_,?_,?_⟩
   ·rw [← hst];exact aj (hcl1 _) (hlc _)
   ·simp [ltF,zle,zlf,znn,znf,hlv]
    omega
   ·simp [aM,wk2,wk1,wkM,Fr.get]
  simp only [go_sem]
  refine ae (fun hc=>?_) (fun hc=>?_)
  ·have hk':k<l.length:=by simp at hc;omega
   obtain ⟨x,hx⟩:∃ x,x=l[k]:=⟨_,rfl⟩
   have hg:=av (f:=c) (l:=l) (k:=k) (x:=x) (by rw [gQq hk',hx])
   have e5:=Yk5 k
   have hxo:=ha x (by rw [hx];exact gMq hk')
   obtain ⟨es',hlk⟩:=eC (g:=g) hk' hx hl
   have hSk:=hW.next (s1.add (bD g (l.take k)))
   obtain ⟨cs,hcc,hcl3,hall⟩:=hag x
   have hsp:∀ zs:List AV,zs.length=sz→splice zs 0 cs=cs:=fun zs hz=>dX (hz.trans hcl3.symm)
   have hts:List.take sz cs=cs:=ybc (by omega)
   rw [hcc] at hg
   clear hag
   subst ew es ec eo eg
   simp only [go_sem,iNq,ybb,hg,hcl3,hts,hall,hsp,if_true,yaz,yba,ai,aP,aZ]
   refine ⟨by omega,?_⟩
   rw [← hcc]
   refine n9 hxo (hSk.push2 _ _) hlk ?_
   rw [hF.p2,es']
   simp only [go_sem,e5]
   refine ⟨k+1,by omega,by omega,by simp only [zkq,zkv,zle,ai];omega,by repeat first|exact .refl _|refine .push ?_ _,aj (hcl1 _) (hlc _),?_,?_⟩
   ·simp [ltF,zle,ai,znn,znf,hlv]
    omega
   ·simp [aM,wk2,wk1,wkM,Fr.get]
  ·have hk':k=l.length:=by simp at hc;omega
   subst hk'
   rw [List.take_length]
   simp only [go_sem]
   refine ⟨?_,by repeat first|exact .refl _|refine .push ?_ _,hcl1 _,?_⟩
   ·simp [wk,wk2,wk1,ak]
   ·simp [zns,znv]
def dk:List AV→AHeap→(AV→Prop)→Prop
 |[],_,K=>K (.agg (aP 8 189 190))
 |_,_,_=>False
theorem nS:EntOk Tryz.prog 77 (Ent.pure dk):=by
 refine Ype fun _ H K h=>?_
 unfold dk at h
 split at h
 rotate_left
 ·exact h.elim
 refine ⟨_,h,?_⟩
 refine ACalls.fW ag tNq Tryz.func77 [.cell 0 188] (nrq _) (T:=af []) (h:=fun hcl hlt=>?_)
 clear hlt
 simp only [go_sem,aP]
 exact Z8
end Go.AL
