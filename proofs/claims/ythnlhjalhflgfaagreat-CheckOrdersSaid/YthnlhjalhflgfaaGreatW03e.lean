/- Lemmas of the proof; no condition. -/
import Derived.Test.YthnlhjalhflgfaaGreatW03c
set_option linter.all false
set_option maxRecDepth 10000
set_option maxHeartbeats 32000000
open Go Go.AL Go.Proofs
namespace Go.AL
theorem ES:ti Tryz.prog 253=some ⟨.struct [(0,3,false),(1,250,false),(2,251,false)],3,24,.agg [.int .i64 0,.nilf,.nilf]⟩:=krf
theorem I3:tFn Tryz.prog 250:=kFn
theorem Ll:tFn Tryz.prog 251:=kFn
theorem Ez:ti Tryz.prog 287=some ⟨.struct [(0,3,false),(1,284,false),(2,285,false)],3,24,.agg [.int .i64 0,.nilf,.nilf]⟩:=krf
theorem GN:tFn Tryz.prog 284:=kFn
theorem KB:tFn Tryz.prog 285:=kFn
theorem Ff:ti Tryz.prog 333=some ⟨.struct [(0,3,false),(1,330,false),(2,331,false)],3,24,.agg [.int .i64 0,.nilf,.nilf]⟩:=krf
theorem K8:tFn Tryz.prog 330:=kFn
theorem JD:tFn Tryz.prog 331:=kFn
theorem EE:ti Tryz.prog 128=some ⟨.struct [(0,3,false),(1,125,false),(2,126,false)],3,24,.agg [.int .i64 0,.nilf,.nilf]⟩:=krf
theorem KL:tFn Tryz.prog 125:=kFn
theorem GX:tFn Tryz.prog 126:=kFn
theorem Ey:ti Tryz.prog 260=some ⟨.struct [(0,3,false),(1,257,false),(2,258,false)],3,24,.agg [.int .i64 0,.nilf,.nilf]⟩:=krf
theorem KN:tFn Tryz.prog 257:=kFn
theorem KR:tFn Tryz.prog 258:=kFn
attribute [go_sem] ES I3 Ll Ez GN KB Ff K8 JD EE KL GX Ey KN KR
theorem gg {n:Nat} {f:Fn}:AV.lt n (.func f [] []):=by rw [AV.lt];exact ⟨fun j hj=>absurd hj (by simp),fun j hj=>absurd hj (by simp)⟩
def cj (most:Int) (f r:Nat):List AV:=[.int .i64 most,.func (.func f) [] [],.func (.func r) [] []]
theorem gE {n:Nat} {most:Int} {f r:Nat}:ltL n (cj most f r):=by simp [cj,znu,znv,znf,gg]
theorem iB {α:Type} {g:α→Enc} (h1:∀ x,1≤(g x).b.length) {l:List α} {s:Enc} {m:Int} (hl:(s.add (bn g m l)).b.length≤dB):l.length≤100000000000000:=by
 have h2:=xz h1 l
 unfold bn at hl
 rw [dx,dx,bJ] at hl
 omega
theorem dh {α:Type} {g:α→Enc} {l:List α} {s:Enc} {k:Nat} {x:α} (hk:k<l.length) (hx:x=l[k]) (hl:(s.add (b5 g l)).b.length≤dB) :
 (s.add (b5 g (l.take k))).add (g x)=s.add (b5 g (l.take (k+1)))∧((s.add (b5 g (l.take k))).add (g x)).b.length≤dB:=by
 have et:l.take (k+1)=l.take k++[x]:=by rw [hx,List.take_succ_eq_append_getElem hk]
 have es:(s.add (b5 g (l.take k))).add (g x)=s.add (b5 g (l.take (k+1))):=by rw [aH,← DU,et]
 refine ⟨es,?_⟩
 have h1:=Fj g l (k+1)
 rw [es]
 rw [dx] at hl ⊢
 omega
theorem cl {H:AHeap} {id q:Nat} {X:List AV} {Y:AObj} (hn:id≠q) (hid:id<H.nx):a8 ((H.set id (.cells X)).set q Y) id=some X:=by
 unfold a8;rw [AHeap.get_set_ne _ _ hn,AHeap.get_set_same _ _ hid]
theorem cZ {H:AHeap} {id q:Nat} {X o:AObj} (hn:id≠q) (h:H.get q=some o):(H.set id X).get q=some o:=by rw [AHeap.get_set_ne _ _ (fun e=>hn e.symm)];exact h
theorem dj {H:AHeap} {id q:Nat} {X Y Z:AObj}:((H.set id X).set q Y).set id Z=(H.set q Y).set id Z:=by
 exact Y68
theorem iz {H:AHeap} {id q n:Nat} {b:List UInt8} {sl sf sa:Bool} {most:Int}:swH H id q ((⟨b,sl,sf,sa⟩:Enc).add (db n most))=(H.set q (.buf 1 (b.length+(iP (n:Int) 2).length))).set id (.cells (swC q (b++iP (n:Int) 2) (sl||decide ((n:Int) > most)) sf sa)):=by
 unfold swH Enc.add db swC
 simp only [Bool.or_false,lAq]
theorem SOn.push2 {H:AHeap} {id q:Nat} {s:Enc} (h:SOn H id q s) (x y:AObj):SOn ((H.push x).push y) id q s:=(h.push x).push y
theorem bf {H:AHeap} {id q:Nat} {s:Enc}:(swH H id q s).nx=H.nx:=ak
theorem gR {n v:Nat}:(vv v).lt n:=by simp [vv,znr,znu,znv,znf]
theorem ct {n:Nat} (x:SField):(aG x).lt n:=by simp [aG,znr,znu,znv,znf,znh]
theorem cJ {n:Nat} (x:SCase):(bb x).lt n:=by simp [bb,vc,znr,znu,znv,znf]
theorem cn {n:Nat} (x:SParam):(aL x).lt n:=by simp [aL,znr,znu,znv,znf,znh]
theorem cI {n:Nat} (x:SPrim):(aT x).lt n:=by simp [aT,vc,znr,znu,znv,znf]
theorem da {n:Nat} (x:SKey):(ba x).lt n:=by simp [ba,znr,znu,znv,znf,znh]
theorem cu {n:Nat} (x:SStage):(aO x).lt n:=by simp [aO,znr,znu,znv,znf]
theorem dr {n:Nat} (x:SRef):(a9 x).lt n:=by simp [a9,znr,znu,znv,znf]
theorem b8 {n:Nat} (x:SHeader):(az x).lt n:=by simp [az,inL,znr,znu,znv,znf,znh,aa fun _=>of_eq_true znf]
theorem cg {n:Nat} (x:SState):(aA x).lt n:=by simp [aA,znr,znu,znv,znf,aa cJ]
theorem bI {n:Nat} (x:SAction):(ap x).lt n:=by simp [ap,znr,znu,znv,znf,znh,aa cn,aa cI]
theorem cb {n:Nat} (x:SGrant):(aJ x).lt n:=by simp [aJ,boL,znr,znu,znv,znf,zng,aa fun _=>of_eq_true zng]
theorem b7 {n:Nat} (x:STable):(ax x).lt n:=by simp [ax,inL,znr,znu,znv,znf,znh,aa fun _=>of_eq_true znf,aa da,aa fun _=>gR]
theorem cw {n:Nat} (x:SRole):(aN x).lt n:=by simp [aN,inL,znr,znu,znv,znf,znh,zng,aa fun _=>of_eq_true znf,aa cb]
theorem fx {zs cs:List AV} (h:zs.length=cs.length):splice zs 0 cs=cs:=by
 rw [lq zs cs 0 (by omega),yar,yak,ybf (by omega),yaj]
theorem lg {α:Type} {P:Program} {f wf sz:Nat} {c:α→AV} {ok:α→Prop} {g:α→Enc} (hone:∀ x,1≤(g x).b.length) (hlt:∀ n x,(c x).lt n) (hag:∀ x,∃ cs,c x=.agg cs∧cs.length=sz∧cM cs=true)
 (h:∀ (wf' sz':Nat) (c':α→AV) (ok':α→Prop) (g':α→Enc),wf'=wf→sz'=sz→c'=c→ok'=ok→g'=g→(∀ x,1≤(g' x).b.length)→(∀ n x,(c' x).lt n)→(∀ x,∃ cs,c' x=.agg cs∧cs.length=sz'∧cM cs=true)→∀ (id:Nat) (most:Int) (r q:Nat) (s:Enc) (l:List α) (H:AHeap),SOn H id q s→(∀ a∈l,ok' a)→(s.add (bn g' most l)).b.length≤dB→ACalls P f [.ptr id 0,.agg [.int .i64 most,.func (.func wf') [] [],.func (.func r) [] []],.slice .any sz' (l.map c')] H (.ret (.tup [])) (swH H id q (s.add (bn g' most l)))):EntOk P f (Ent.effect (mt wf sz c ok g)):=by
 refine EntOk.effect fun args H K hh=>?_
 unfold mt at hh
 split at hh
 ·obtain ⟨q,s,l,⟨hW,rfl,rfl,rfl,ha,hl⟩,hK⟩:=hh
  exact ⟨_,_,hK,h _ _ _ _ _ rfl rfl rfl rfl rfl hone hlt hag _ _ _ _ _ _ _ hW ha hl⟩
 ·exact hh.elim
def CQ:=eW (.int .i64) qS jH
def zC:=mt 298 1 (.int .i64) qS jH
theorem Gj:EEe 298 CQ:=by
 unfold CQ
 refine Yef fun _ H K h=>?_
 unfold eW at h
 split at h<;>try exact h.elim
 rename_i id x
 obtain ⟨q,s,a,⟨hW,rfl,ha,hl⟩,hK⟩:=h
 refine ⟨_,_,hK,?_⟩
 clear hK
 have hF:=hW.facts
 have hcl0:=hW.closed (t:=s.add (jH a))
 have hid:=glq hW.o
 have hq:=glq hW.bu
 refine Yfw aE (tCq iZ tNq) Tryz.func298 [] (by rw [ak];omega) (T:=aB []) (h:=fun hcl=>?_)
 have hcl1:=hcl0 hcl
 unfold jH at hl hcl1 ⊢
 have hl1:=hl
 simp only [go_sem,ak,bf]
 refine cW (.inr rfl) hW hl1 ?_
 try simp only [go_sem,ak,bf]
 exact Z16
theorem sC:EEe 197 zC:=by
 unfold zC
 refine Yef fun _ H K h=>?_
 unfold mt at h
 split at h<;>try exact h.elim
 rename_i id most f' r sz' xs
 obtain ⟨q,s,l,⟨hW,rfl,rfl,rfl,ha,hl⟩,hK⟩:=h
 refine ⟨_,_,hK,?_⟩
 clear hK
 have hF:=hW.facts
 have hcl0:=fun t=>hW.closed (t:=t)
 have hid:=glq hW.o
 have hq:=glq hW.bu
 have hll:=iB zr hl
 obtain ⟨b,sl,sf,sa⟩:=s
 have hne:=cN hid
 have hneq:=cN hq
 have n1:(id=q)=False:=eq_false hW.ne
 have n2:(q=id)=False:=eq_false fun e=>hW.ne e.symm
 have hcs:=aM hW.o
 have hb0:=hW.bu
 have hi0:=hW.o
 have hnn:=hW.ne
 have hlb:b.length≤dB:=aQ hl
 rw [bJ] at hlb
 dsimp only at hcs hb0 hi0 hlb
 have lw2:=eS (l.length:Int) 2
 refine Yfw aE (tCq di (tCq Gj tNq)) Tryz.func197 [] (by rw [ak];omega) (T:=aB [(2,[[],[],[],[],[],[],[],[],[4,7],[],[],[4,7]])]) (h:=fun hcl=>?_)
 have hcl1:=fun t=>hcl0 t hcl
 have hcm:=fun cs=>@bK H id cs hid
 have hA:=fun X Y=>@cl H id q X Y hnn hid
 have hB:=fun X=>cZ (X:=X) hnn hb0
 have eh:=fun X Y Z=>@dj H id q X Y Z
 have hL2:sl=true→(sl||decide ((l.length:Int) > most))=true:=fun h=>by rw [h,Bool.true_or]
 have hL3:sl=false→decide ((l.length:Int) > most)=(sl||decide ((l.length:Int) > most)):=fun h=>by rw [h,Bool.false_or]
 have hst:=iz (H:=H) (id:=id) (q:=q) (b:=b) (sl:=sl) (sf:=sf) (sa:=sa) (n:=l.length) (most:=most)
 have hS1:=hW.next ((⟨b,sl,sf,sa⟩:Enc).add (db l.length most))
 have htot:(((⟨b,sl,sf,sa⟩:Enc).add (db l.length most)).add (b5 jH l))=(⟨b,sl,sf,sa⟩:Enc).add (bn jH most l):=by rw [aH];rfl
 rw [← htot] at hl ⊢
 generalize ((⟨b,sl,sf,sa⟩:Enc).add (db l.length most))=s1 at *
 generalize (sl||decide ((l.length:Int) > most))=L at *
 have hlv:∀ n,(AV.slice .any 1 (l.map (.int .i64))).lt n:=fun n=>aa (fun x=>of_eq_true znf)
 have hlc:=fun n=>@gE n most 298 r
 cases sl
 case' true =>
  rw [hL2 rfl] at hst
  simp only [go_sem,byq,hne,hneq,n1,n2,hcs,hcm,hA,hB,eh,hi0,hb0,bB,ybb]
 case' false =>
  simp only [go_sem,byq,hne,hneq,n1,n2,hcs,hcm,hA,hB,eh,hi0,hb0,bB,ybb,hL3 rfl]
 all_goals
  (repeat with_reducible refine And.intro (by first|assumption|decide|omega|exact ⟨by omega,by omega⟩) ?_)
  refine aC (A:=Nat) (fun k=>[(0,.ptr id 0),(4,.ptr H.nx 0),(33,.slice .any 1 (l.map (.int .i64))),(34,.int .i64 (l.length:Int)),(35,.int .i64 (k:Int))])
   (fun k=>(swH H id q (s1.add (b5 jH (l.take k)))).push (.cells (cj most 298 r))) (fun k=>k≤l.length) (fun k=>l.length - k) 0 (by omega) ?_ fun k hk=>?_
  ·exact Y11
  refine Tq15 ?_
  refine au (fun hc=>?_) (fun hc=>?_)
  ·have hk':k<l.length:=sHc
   obtain ⟨x,hx⟩:∃ x,x=l[k]:=⟨_,rfl⟩
   have hg:=cG (f:=.int .i64) (l:=l) (k:=k) (x:=x) (by rw [gQq hk',hx])
   have e5:=Yk5 k
   have hxo:=ha x (by rw [hx];exact gMq hk')
   obtain ⟨es,hlk⟩:=dh (g:=jH) hk' hx hl
   have hSk:=hW.next (s1.add (b5 jH (l.take k)))
   simp only [go_sem,iNq,ybb,hg,ak,cj,bJ]
   refine ⟨by omega,?_⟩
   refine oz (c:=.int .i64) hxo (hSk.push _) hlk ?_
   rw [hF.p1,es]
   exact Y12
  ·exact Y14
def fS:PCt
 |[.int .i64 most],_,K=>K (.agg (cj most 298 299))
 |_,_,_=>False
theorem vt:EPp 198 fS:=by
 refine Ype fun _ H K h=>?_
 unfold fS at h
 split at h<;>try exact h.elim
 refine ⟨_,h,?_⟩
 refine Yfv aE tNq Tryz.func198 [.cell 2 253] fun hcl hlt=>?_
 exact Y48
def zU:=mt 303 2 (vv) rm jK
theorem Ea:EEe 217 zU:=by
 unfold zU
 refine Yef fun _ H K h=>?_
 unfold mt at h
 split at h<;>try exact h.elim
 rename_i id most f' r sz' xs
 obtain ⟨q,s,l,⟨hW,rfl,rfl,rfl,ha,hl⟩,hK⟩:=h
 refine ⟨_,_,hK,?_⟩
 clear hK
 have hF:=hW.facts
 have hcl0:=fun t=>hW.closed (t:=t)
 have hid:=glq hW.o
 have hq:=glq hW.bu
 have hll:=iB y0 hl
 obtain ⟨b,sl,sf,sa⟩:=s
 have hne:=cN hid
 have hneq:=cN hq
 have n1:(id=q)=False:=eq_false hW.ne
 have n2:(q=id)=False:=eq_false fun e=>hW.ne e.symm
 have hcs:=aM hW.o
 have hb0:=hW.bu
 have hi0:=hW.o
 have hnn:=hW.ne
 have hlb:b.length≤dB:=aQ hl
 rw [bJ] at hlb
 dsimp only at hcs hb0 hi0 hlb
 have lw2:=eS (l.length:Int) 2
 refine Yfw aE (tCq di (tCq xj tNq)) Tryz.func217 [] (by rw [ak];omega) (T:=aB [(2,[[],[],[],[],[],[],[],[],[4,7],[],[],[4,7]])]) (h:=fun hcl=>?_)
 have hcl1:=fun t=>hcl0 t hcl
 have hcm:=fun cs=>@bK H id cs hid
 have hA:=fun X Y=>@cl H id q X Y hnn hid
 have hB:=fun X=>cZ (X:=X) hnn hb0
 have eh:=fun X Y Z=>@dj H id q X Y Z
 have hL2:sl=true→(sl||decide ((l.length:Int) > most))=true:=fun h=>by rw [h,Bool.true_or]
 have hL3:sl=false→decide ((l.length:Int) > most)=(sl||decide ((l.length:Int) > most)):=fun h=>by rw [h,Bool.false_or]
 have hst:=iz (H:=H) (id:=id) (q:=q) (b:=b) (sl:=sl) (sf:=sf) (sa:=sa) (n:=l.length) (most:=most)
 have hS1:=hW.next ((⟨b,sl,sf,sa⟩:Enc).add (db l.length most))
 have htot:(((⟨b,sl,sf,sa⟩:Enc).add (db l.length most)).add (b5 jK l))=(⟨b,sl,sf,sa⟩:Enc).add (bn jK most l):=by rw [aH];rfl
 rw [← htot] at hl ⊢
 generalize ((⟨b,sl,sf,sa⟩:Enc).add (db l.length most))=s1 at *
 generalize (sl||decide ((l.length:Int) > most))=L at *
 have hlv:∀ n,(AV.slice .any 2 (l.map (vv))).lt n:=fun n=>aa (fun x=>gR)
 have hlc:=fun n=>@gE n most 303 r
 cases sl
 case' true =>
  rw [hL2 rfl] at hst
  simp only [go_sem,byq,hne,hneq,n1,n2,hcs,hcm,hA,hB,eh,hi0,hb0,bB,ybb]
 case' false =>
  simp only [go_sem,byq,hne,hneq,n1,n2,hcs,hcm,hA,hB,eh,hi0,hb0,bB,ybb,hL3 rfl]
 all_goals
  (repeat with_reducible refine And.intro (by first|assumption|decide|omega|exact ⟨by omega,by omega⟩) ?_)
  refine aC (A:=Nat) (fun k=>[(0,.ptr id 0),(4,.ptr H.nx 0),(33,.slice .any 2 (l.map (vv))),(34,.int .i64 (l.length:Int)),(35,.int .i64 (k:Int))])
   (fun k=>(swH H id q (s1.add (b5 jK (l.take k)))).push (.cells (cj most 303 r))) (fun k=>k≤l.length) (fun k=>l.length - k) 0 (by omega) ?_ fun k hk=>?_
  ·exact Y11
  refine Tq15 ?_
  refine au (fun hc=>?_) (fun hc=>?_)
  ·have hk':k<l.length:=sHc
   obtain ⟨x,hx⟩:∃ x,x=l[k]:=⟨_,rfl⟩
   have hg:=cG (f:=vv) (l:=l) (k:=k) (x:=x) (by rw [gQq hk',hx])
   have e5:=Yk5 k
   have hxo:=ha x (by rw [hx];exact gMq hk')
   obtain ⟨es,hlk⟩:=dh (g:=jK) hk' hx hl
   have hSk:=hW.next (s1.add (b5 jK (l.take k)))
   simp only [go_sem,iNq,ybb,hg,ak,vv,cj,bJ]
   refine ⟨by omega,?_⟩
   refine sX hxo (hSk.push2 _ _) hlk ?_
   rw [hF.p2,es]
   exact Y12
  ·exact Y14
def kp:PCt
 |[],_,K=>K (.agg (cj 4 303 305))
 |_,_,_=>False
theorem Gc:EPp 218 kp:=by
 refine Ype fun _ H K h=>?_
 unfold kp at h
 split at h<;>try exact h.elim
 refine ⟨_,h,?_⟩
 refine Yfv aE tNq Tryz.func218 [.cell 0 287] fun hcl hlt=>?_
 exact Y48
def zW:=mt 227 1 (.bool) qS i5
theorem EW:EEe 313 zW:=by
 unfold zW
 refine Yef fun _ H K h=>?_
 unfold mt at h
 split at h<;>try exact h.elim
 rename_i id most f' r sz' xs
 obtain ⟨q,s,l,⟨hW,rfl,rfl,rfl,ha,hl⟩,hK⟩:=h
 refine ⟨_,_,hK,?_⟩
 clear hK
 have hF:=hW.facts
 have hcl0:=fun t=>hW.closed (t:=t)
 have hid:=glq hW.o
 have hq:=glq hW.bu
 have hll:=iB z6 hl
 obtain ⟨b,sl,sf,sa⟩:=s
 have hne:=cN hid
 have hneq:=cN hq
 have n1:(id=q)=False:=eq_false hW.ne
 have n2:(q=id)=False:=eq_false fun e=>hW.ne e.symm
 have hcs:=aM hW.o
 have hb0:=hW.bu
 have hi0:=hW.o
 have hnn:=hW.ne
 have hlb:b.length≤dB:=aQ hl
 rw [bJ] at hlb
 dsimp only at hcs hb0 hi0 hlb
 have lw2:=eS (l.length:Int) 2
 refine Yfw aE (tCq di (tCq xq tNq)) Tryz.func313 [] (by rw [ak];omega) (T:=aB [(2,[[],[],[],[],[],[],[],[],[4,7],[],[],[4,7]])]) (h:=fun hcl=>?_)
 have hcl1:=fun t=>hcl0 t hcl
 have hcm:=fun cs=>@bK H id cs hid
 have hA:=fun X Y=>@cl H id q X Y hnn hid
 have hB:=fun X=>cZ (X:=X) hnn hb0
 have eh:=fun X Y Z=>@dj H id q X Y Z
 have hL2:sl=true→(sl||decide ((l.length:Int) > most))=true:=fun h=>by rw [h,Bool.true_or]
 have hL3:sl=false→decide ((l.length:Int) > most)=(sl||decide ((l.length:Int) > most)):=fun h=>by rw [h,Bool.false_or]
 have hst:=iz (H:=H) (id:=id) (q:=q) (b:=b) (sl:=sl) (sf:=sf) (sa:=sa) (n:=l.length) (most:=most)
 have hS1:=hW.next ((⟨b,sl,sf,sa⟩:Enc).add (db l.length most))
 have htot:(((⟨b,sl,sf,sa⟩:Enc).add (db l.length most)).add (b5 i5 l))=(⟨b,sl,sf,sa⟩:Enc).add (bn i5 most l):=by rw [aH];rfl
 rw [← htot] at hl ⊢
 generalize ((⟨b,sl,sf,sa⟩:Enc).add (db l.length most))=s1 at *
 generalize (sl||decide ((l.length:Int) > most))=L at *
 have hlv:∀ n,(AV.slice .any 1 (l.map (.bool))).lt n:=fun n=>aa (fun x=>of_eq_true zng)
 have hlc:=fun n=>@gE n most 227 r
 cases sl
 case' true =>
  rw [hL2 rfl] at hst
  simp only [go_sem,byq,hne,hneq,n1,n2,hcs,hcm,hA,hB,eh,hi0,hb0,bB,ybb]
 case' false =>
  simp only [go_sem,byq,hne,hneq,n1,n2,hcs,hcm,hA,hB,eh,hi0,hb0,bB,ybb,hL3 rfl]
 all_goals
  (repeat with_reducible refine And.intro (by first|assumption|decide|omega|exact ⟨by omega,by omega⟩) ?_)
  refine aC (A:=Nat) (fun k=>[(0,.ptr id 0),(4,.ptr H.nx 0),(33,.slice .any 1 (l.map (.bool))),(34,.int .i64 (l.length:Int)),(35,.int .i64 (k:Int))])
   (fun k=>(swH H id q (s1.add (b5 i5 (l.take k)))).push (.cells (cj most 227 r))) (fun k=>k≤l.length) (fun k=>l.length - k) 0 (by omega) ?_ fun k hk=>?_
  ·exact Y11
  refine Tq15 ?_
  refine au (fun hc=>?_) (fun hc=>?_)
  ·have hk':k<l.length:=sHc
   obtain ⟨x,hx⟩:∃ x,x=l[k]:=⟨_,rfl⟩
   have hg:=cG (f:=.bool) (l:=l) (k:=k) (x:=x) (by rw [gQq hk',hx])
   have e5:=Yk5 k
   have hxo:=ha x (by rw [hx];exact gMq hk')
   obtain ⟨es,hlk⟩:=dh (g:=i5) hk' hx hl
   have hSk:=hW.next (s1.add (b5 i5 (l.take k)))
   simp only [go_sem,iNq,ybb,hg,ak,cj,bJ]
   refine ⟨by omega,?_⟩
   refine sO (hSk.push _) hlk ?_
   rw [hF.p1,es]
   exact Y12
  ·exact Y14
def nX:PCt
 |[],_,K=>K (.agg (cj 4 227 230))
 |_,_,_=>False
theorem KW:EPp 314 nX:=by
 refine Ype fun _ H K h=>?_
 unfold nX at h
 split at h<;>try exact h.elim
 refine ⟨_,h,?_⟩
 refine Yfv aE tNq Tryz.func314 [.cell 0 333] fun hcl hlt=>?_
 exact Y48
def Dc:=eW (aG) xM gz
def Fk:=mt 191 3 (aG) xM gz
theorem GL:EEe 191 Dc:=by
 unfold Dc
 refine Yef fun _ H K h=>?_
 unfold eW at h
 split at h<;>try exact h.elim
 rename_i id x
 obtain ⟨q,s,a,⟨hW,rfl,ha,hl⟩,hK⟩:=h
 refine ⟨_,_,hK,?_⟩
 clear hK
 have hF:=hW.facts
 have hcl0:=hW.closed (t:=s.add (gz a))
 have hid:=glq hW.o
 have hq:=glq hW.bu
 refine Yfw aE (tCq iZ (tCq nL tNq)) Tryz.func191 [] (by rw [ak];omega) (T:=aB []) (h:=fun hcl=>?_)
 have hcl1:=hcl0 hcl
 unfold gz at hl hcl1 ⊢
 rw [← aH,← aH] at hl hcl1 ⊢
 have hl3:=hl
 have hl2:=aQ hl3
 have hl1:=aQ hl2
 simp only [go_sem,aG,ak,bf]
 refine cW (.inr rfl) (hW.push _) hl1 ?_
 rw [hF.p0]
 simp only [go_sem,aG,ak,bf]
 refine kQ (ha) ((hW.next _).push _) hl2 ?_
 rw [hF.p1]
 simp only [go_sem,aG,ak,bf]
 refine cW (.inl rfl) ((hW.next _).push _) hl3 ?_
 rw [hF.p1]
 try simp only [go_sem,aG,ak,bf]
 exact Z16
theorem EP:EEe 59 Fk:=lg wO (fun _ x=>ct x) (fun _=>⟨_,rfl,rfl,rfl⟩) fun wf sz c ok g ew es ec eo eg hone hlt' hag id most r q s l H hW ha hl=>by
 refine ACalls.fW aE (tCq di (tCq GL tNq)) Tryz.func59 [] (by rw [ak];omega) (T:=aB [(2,[[],[],[],[],[],[],[],[],[4,7],[],[],[4,7]])]) (h:=fun hcl hlt=>?_)
 exact Y0
def jY:PCt
 |[],_,K=>K (.agg (cj 32 191 193))
 |_,_,_=>False
theorem J5:EPp 60 jY:=by
 refine Ype fun _ H K h=>?_
 unfold jY at h
 split at h<;>try exact h.elim
 refine ⟨_,h,?_⟩
 refine Yfv aE tNq Tryz.func60 [.cell 0 128] fun hcl hlt=>?_
 exact Y48
def CG:=eW (bb) uE l9
def GQ:=mt 302 5 (bb) uE l9
theorem Jg:EEe 302 CG:=by
 unfold CG
 refine Yef fun _ H K h=>?_
 unfold eW at h
 split at h<;>try exact h.elim
 rename_i id x
 obtain ⟨q,s,a,⟨hW,rfl,ha,hl⟩,hK⟩:=h
 refine ⟨_,_,hK,?_⟩
 clear hK
 have hF:=hW.facts
 have hcl0:=hW.closed (t:=s.add (l9 a))
 have hid:=glq hW.o
 have hq:=glq hW.bu
 refine Yfw aE (tCq xj (tCq iZ tNq)) Tryz.func302 [] (by rw [ak];omega) (T:=aB []) (h:=fun hcl=>?_)
 have hcl1:=hcl0 hcl
 unfold l9 at hl hcl1 ⊢
 rw [← aH,← aH] at hl hcl1 ⊢
 have hl3:=hl
 have hl2:=aQ hl3
 have hl1:=aQ hl2
 simp only [go_sem,bb,vc,ak,bf]
 refine sX (ha.1) (hW.push _) hl1 ?_
 rw [hF.p0]
 simp only [go_sem,bb,vc,ak,bf]
 refine sX (ha.2) ((hW.next _).push _) hl2 ?_
 rw [hF.p1]
 simp only [go_sem,bb,vc,ak,bf]
 refine cW (.inr rfl) ((hW.next _).push _) hl3 ?_
 rw [hF.p1]
 try simp only [go_sem,bb,vc,ak,bf]
 exact Z16
theorem DV:EEe 202 GQ:=lg z8 (fun _ x=>cJ x) (fun _=>⟨_,rfl,rfl,rfl⟩) fun wf sz c ok g ew es ec eo eg hone hlt' hag id most r q s l H hW ha hl=>by
 refine ACalls.fW aE (tCq di (tCq Jg tNq)) Tryz.func202 [] (by rw [ak];omega) (T:=aB [(2,[[],[],[],[],[],[],[],[],[4,7],[],[],[4,7]])]) (h:=fun hcl hlt=>?_)
 exact Y0
def mG:PCt
 |[],_,K=>K (.agg (cj 6 302 304))
 |_,_,_=>False
theorem IV:EPp 203 mG:=by
 refine Ype fun _ H K h=>?_
 unfold mG at h
 split at h<;>try exact h.elim
 refine ⟨_,h,?_⟩
 refine Yfv aE tNq Tryz.func203 [.cell 0 260] fun hcl hlt=>?_
 exact Y48
theorem Fh:ti Tryz.prog 267=some ⟨.struct [(0,3,false),(1,264,false),(2,265,false)],3,24,.agg [.int .i64 0,.nilf,.nilf]⟩:=krf
theorem JG:tFn Tryz.prog 264:=kFn
theorem FM:tFn Tryz.prog 265:=kFn
theorem Fc:ti Tryz.prog 273=some ⟨.struct [(0,3,false),(1,270,false),(2,271,false)],3,24,.agg [.int .i64 0,.nilf,.nilf]⟩:=krf
theorem Hu:tFn Tryz.prog 270:=kFn
theorem HY:tFn Tryz.prog 271:=kFn
theorem DC:ti Tryz.prog 281=some ⟨.struct [(0,3,false),(1,278,false),(2,279,false)],3,24,.agg [.int .i64 0,.nilf,.nilf]⟩:=krf
theorem FL:tFn Tryz.prog 278:=kFn
theorem Ln:tFn Tryz.prog 279:=kFn
theorem Ed:ti Tryz.prog 158=some ⟨.struct [(0,3,false),(1,155,false),(2,156,false)],3,24,.agg [.int .i64 0,.nilf,.nilf]⟩:=krf
theorem KG:tFn Tryz.prog 155:=kFn
theorem Gb:tFn Tryz.prog 156:=kFn
theorem DA:ti Tryz.prog 170=some ⟨.struct [(0,3,false),(1,167,false),(2,168,false)],3,24,.agg [.int .i64 0,.nilf,.nilf]⟩:=krf
theorem FW:tFn Tryz.prog 167:=kFn
theorem JM:tFn Tryz.prog 168:=kFn
attribute [go_sem] Fh JG FM Fc Hu HY DC FL Ln Ed KG Gb DA FW JM
def Cy:=eW (aL) yh js
def HK:=mt 306 2 (aL) yh js
theorem F6:EEe 306 Cy:=by
 unfold Cy
 refine Yef fun _ H K h=>?_
 unfold eW at h
 split at h<;>try exact h.elim
 rename_i id x
 obtain ⟨q,s,a,⟨hW,rfl,ha,hl⟩,hK⟩:=h
 refine ⟨_,_,hK,?_⟩
 clear hK
 have hF:=hW.facts
 have hcl0:=hW.closed (t:=s.add (js a))
 have hid:=glq hW.o
 have hq:=glq hW.bu
 refine Yfw aE (tCq nL (tCq iZ tNq)) Tryz.func306 [] (by rw [ak];omega) (T:=aB []) (h:=fun hcl=>?_)
 have hcl1:=hcl0 hcl
 unfold js at hl hcl1 ⊢
 rw [← aH] at hl hcl1 ⊢
 have hl2:=hl
 have hl1:=aQ hl2
 simp only [go_sem,aL,ak,bf]
 refine kQ (ha) (hW.push _) hl1 ?_
 rw [hF.p0]
 simp only [go_sem,aL,ak,bf]
 refine cW (.inl rfl) ((hW.next _).push _) hl2 ?_
 rw [hF.p1]
 try simp only [go_sem,aL,ak,bf]
 exact Z16
theorem EU:EEe 207 HK:=lg w9 (fun _ x=>cn x) (fun _=>⟨_,rfl,rfl,rfl⟩) fun wf sz c ok g ew es ec eo eg hone hlt' hag id most r q s l H hW ha hl=>by
 refine ACalls.fW aE (tCq di (tCq F6 tNq)) Tryz.func207 [] (by rw [ak];omega) (T:=aB [(2,[[],[],[],[],[],[],[],[],[4,7],[],[],[4,7]])]) (h:=fun hcl hlt=>?_)
 exact Y0
def mH:PCt
 |[],_,K=>K (.agg (cj 4 306 307))
 |_,_,_=>False
theorem I2:EPp 208 mH:=by
 refine Ype fun _ H K h=>?_
 unfold mH at h
 split at h<;>try exact h.elim
 refine ⟨_,h,?_⟩
 refine Yfv aE tNq Tryz.func208 [.cell 0 267] fun hcl hlt=>?_
 exact Y48
def BU:=eW (aT) BR mE
def JI:=mt 308 6 (aT) BR mE
theorem JN:EEe 308 BU:=by
 unfold BU
 refine Yef fun _ H K h=>?_
 unfold eW at h
 split at h<;>try exact h.elim
 rename_i id x
 obtain ⟨q,s,a,⟨hW,rfl,ha,hl⟩,hK⟩:=h
 refine ⟨_,_,hK,?_⟩
 clear hK
 have hF:=hW.facts
 have hcl0:=hW.closed (t:=s.add (mE a))
 have hid:=glq hW.o
 have hq:=glq hW.bu
 refine Yfw aE (tCq iZ (tCq xj tNq)) Tryz.func308 [] (by rw [ak];omega) (T:=aB []) (h:=fun hcl=>?_)
 have hcl1:=hcl0 hcl
 unfold mE at hl hcl1 ⊢
 rw [← aH,← aH,← aH,← aH] at hl hcl1 ⊢
 have hl5:=hl
 have hl4:=aQ hl5
 have hl3:=aQ hl4
 have hl2:=aQ hl3
 have hl1:=aQ hl2
 simp only [go_sem,aT,vc,ak,bf]
 refine cW (.inl rfl) (hW.push _) hl1 ?_
 rw [hF.p0]
 simp only [go_sem,aT,vc,ak,bf]
 refine cW (.inr rfl) ((hW.next _).push _) hl2 ?_
 rw [hF.p1]
 simp only [go_sem,aT,vc,ak,bf]
 refine cW (.inl rfl) ((hW.next _).push _) hl3 ?_
 rw [hF.p1]
 simp only [go_sem,aT,vc,ak,bf]
 refine cW (.inr rfl) ((hW.next _).push _) hl4 ?_
 rw [hF.p1]
 simp only [go_sem,aT,vc,ak,bf]
 refine sX (ha) ((hW.next _).push _) hl5 ?_
 rw [hF.p1]
 try simp only [go_sem,aT,vc,ak,bf]
 exact Z16
theorem Fe:EEe 209 JI:=lg yL (fun _ x=>cI x) (fun _=>⟨_,rfl,rfl,rfl⟩) fun wf sz c ok g ew es ec eo eg hone hlt' hag id most r q s l H hW ha hl=>by
 refine ACalls.fW aE (tCq di (tCq JN tNq)) Tryz.func209 [] (by rw [ak];omega) (T:=aB [(2,[[],[],[],[],[],[],[],[],[4,7],[],[],[4,7]])]) (h:=fun hcl hlt=>?_)
 exact Y0
def mM:PCt
 |[],_,K=>K (.agg (cj 12 308 309))
 |_,_,_=>False
theorem He:EPp 210 mM:=by
 refine Ype fun _ H K h=>?_
 unfold mM at h
 split at h<;>try exact h.elim
 refine ⟨_,h,?_⟩
 refine Yfv aE tNq Tryz.func210 [.cell 0 273] fun hcl hlt=>?_
 exact Y48
def C3:=eW (ba) Ji oD
def J3:=mt 310 3 (ba) Ji oD
theorem G8:EEe 310 C3:=by
 unfold C3
 refine Yef fun _ H K h=>?_
 unfold eW at h
 split at h<;>try exact h.elim
 rename_i id x
 obtain ⟨q,s,a,⟨hW,rfl,ha,hl⟩,hK⟩:=h
 refine ⟨_,_,hK,?_⟩
 clear hK
 have hF:=hW.facts
 have hcl0:=hW.closed (t:=s.add (oD a))
 have hid:=glq hW.o
 have hq:=glq hW.bu
 refine Yfw aE (tCq nL (tCq iZ tNq)) Tryz.func310 [] (by rw [ak];omega) (T:=aB []) (h:=fun hcl=>?_)
 have hcl1:=hcl0 hcl
 unfold oD at hl hcl1 ⊢
 rw [← aH,← aH] at hl hcl1 ⊢
 have hl3:=hl
 have hl2:=aQ hl3
 have hl1:=aQ hl2
 simp only [go_sem,ba,ak,bf]
 refine kQ (ha) (hW.push _) hl1 ?_
 rw [hF.p0]
 simp only [go_sem,ba,ak,bf]
 refine cW (.inr rfl) ((hW.next _).push _) hl2 ?_
 rw [hF.p1]
 simp only [go_sem,ba,ak,bf]
 refine cW (.inl rfl) ((hW.next _).push _) hl3 ?_
 rw [hF.p1]
 try simp only [go_sem,ba,ak,bf]
 exact Z16
theorem EB:EEe 215 J3:=lg B7 (fun _ x=>da x) (fun _=>⟨_,rfl,rfl,rfl⟩) fun wf sz c ok g ew es ec eo eg hone hlt' hag id most r q s l H hW ha hl=>by
 refine ACalls.fW aE (tCq di (tCq G8 tNq)) Tryz.func215 [] (by rw [ak];omega) (T:=aB [(2,[[],[],[],[],[],[],[],[],[4,7],[],[],[4,7]])]) (h:=fun hcl hlt=>?_)
 exact Y0
def kE:PCt
 |[],_,K=>K (.agg (cj 4 310 311))
 |_,_,_=>False
theorem Kj:EPp 216 kE:=by
 refine Ype fun _ H K h=>?_
 unfold kE at h
 split at h<;>try exact h.elim
 refine ⟨_,h,?_⟩
 refine Yfv aE tNq Tryz.func216 [.cell 0 281] fun hcl hlt=>?_
 exact Y48
def Dg:=eW (aO) qS im
def Jz:=mt 222 2 (aO) qS im
theorem Gv:EEe 222 Dg:=by
 unfold Dg
 refine Yef fun _ H K h=>?_
 unfold eW at h
 split at h<;>try exact h.elim
 rename_i id x
 obtain ⟨q,s,a,⟨hW,rfl,ha,hl⟩,hK⟩:=h
 refine ⟨_,_,hK,?_⟩
 clear hK
 have hF:=hW.facts
 have hcl0:=hW.closed (t:=s.add (im a))
 have hid:=glq hW.o
 have hq:=glq hW.bu
 refine Yfw aE (tCq iZ tNq) Tryz.func222 [] (by rw [ak];omega) (T:=aB []) (h:=fun hcl=>?_)
 have hcl1:=hcl0 hcl
 unfold im at hl hcl1 ⊢
 rw [← aH] at hl hcl1 ⊢
 have hl2:=hl
 have hl1:=aQ hl2
 simp only [go_sem,aO,ak,bf]
 refine cW (.inr rfl) (hW.push _) hl1 ?_
 rw [hF.p0]
 simp only [go_sem,aO,ak,bf]
 refine cW (.inr rfl) ((hW.next _).push _) hl2 ?_
 rw [hF.p1]
 try simp only [go_sem,aO,ak,bf]
 exact Z16
theorem DB:EEe 69 Jz:=lg wr (fun _ x=>cu x) (fun _=>⟨_,rfl,rfl,rfl⟩) fun wf sz c ok g ew es ec eo eg hone hlt' hag id most r q s l H hW ha hl=>by
 refine ACalls.fW aE (tCq di (tCq Gv tNq)) Tryz.func69 [] (by rw [ak];omega) (T:=aB [(2,[[],[],[],[],[],[],[],[],[4,7],[],[],[4,7]])]) (h:=fun hcl hlt=>?_)
 exact Y0
def jT:PCt
 |[],_,K=>K (.agg (cj 12 222 223))
 |_,_,_=>False
theorem Hk:EPp 70 jT:=by
 refine Ype fun _ H K h=>?_
 unfold jT at h
 split at h<;>try exact h.elim
 refine ⟨_,h,?_⟩
 refine Yfv aE tNq Tryz.func70 [.cell 0 158] fun hcl hlt=>?_
 exact Y48
def CW:=eW (a9) qS qq
def KE:=mt 231 6 (a9) qS qq
theorem Ht:EEe 231 CW:=by
 unfold CW
 refine Yef fun _ H K h=>?_
 unfold eW at h
 split at h<;>try exact h.elim
 rename_i id x
 obtain ⟨q,s,a,⟨hW,rfl,ha,hl⟩,hK⟩:=h
 refine ⟨_,_,hK,?_⟩
 clear hK
 have hF:=hW.facts
 have hcl0:=hW.closed (t:=s.add (qq a))
 have hid:=glq hW.o
 have hq:=glq hW.bu
 refine Yfw aE (tCq iZ tNq) Tryz.func231 [] (by rw [ak];omega) (T:=aB []) (h:=fun hcl=>?_)
 have hcl1:=hcl0 hcl
 unfold qq at hl hcl1 ⊢
 rw [← aH,← aH,← aH,← aH,← aH] at hl hcl1 ⊢
 have hl6:=hl
 have hl5:=aQ hl6
 have hl4:=aQ hl5
 have hl3:=aQ hl4
 have hl2:=aQ hl3
 have hl1:=aQ hl2
 simp only [go_sem,a9,ak,bf]
 refine cW (.inr rfl) (hW.push _) hl1 ?_
 rw [hF.p0]
 simp only [go_sem,a9,ak,bf]
 refine cW (.inl rfl) ((hW.next _).push _) hl2 ?_
 rw [hF.p1]
 simp only [go_sem,a9,ak,bf]
 refine cW (.inr rfl) ((hW.next _).push _) hl3 ?_
 rw [hF.p1]
 simp only [go_sem,a9,ak,bf]
 refine cW (.inl rfl) ((hW.next _).push _) hl4 ?_
 rw [hF.p1]
 simp only [go_sem,a9,ak,bf]
 refine cW (.inr rfl) ((hW.next _).push _) hl5 ?_
 rw [hF.p1]
 simp only [go_sem,a9,ak,bf]
 refine cW (.inl rfl) ((hW.next _).push _) hl6 ?_
 rw [hF.p1]
 try simp only [go_sem,a9,ak,bf]
 exact Z16
theorem DJ:EEe 73 KE:=lg CD (fun _ x=>dr x) (fun _=>⟨_,rfl,rfl,rfl⟩) fun wf sz c ok g ew es ec eo eg hone hlt' hag id most r q s l H hW ha hl=>by
 refine ACalls.fW aE (tCq di (tCq Ht tNq)) Tryz.func73 [] (by rw [ak];omega) (T:=aB [(2,[[],[],[],[],[],[],[],[],[4,7],[],[],[4,7]])]) (h:=fun hcl hlt=>?_)
 exact Y0
def jZ:PCt
 |[],_,K=>K (.agg (cj 8 231 232))
 |_,_,_=>False
theorem Ie:EPp 74 jZ:=by
 refine Ype fun _ H K h=>?_
 unfold jZ at h
 split at h<;>try exact h.elim
 refine ⟨_,h,?_⟩
 refine Yfv aE tNq Tryz.func74 [.cell 0 170] fun hcl hlt=>?_
 exact Y48
end Go.AL
