/- Lemmas of the proof; no condition. -/
import Derived.Test.YthnlhjalhflgfaaGreatW03c
set_option linter.all false
set_option maxRecDepth 10000
set_option maxHeartbeats 32000000
open List renaming take_zero → yar, nil_append → yak, drop_eq_nil_of_le → ybf, append_nil → yaj, length_cons → yaz, length_nil → yba, take_of_length_le → ybc, drop_append → ybd, take_append → ybe, length_map → ybb
open Go Go.AL Go.Proofs
namespace Go.AL
theorem E3:ti Tryz.prog 253=some ⟨.struct [(0,3,false),(1,250,false),(2,251,false)],3,24,.agg [.int .i64 0,.nilf,.nilf]⟩:=krf
theorem IJ:tFn Tryz.prog 250:=kFn
theorem H6:tFn Tryz.prog 251:=kFn
theorem F0:ti Tryz.prog 287=some ⟨.struct [(0,3,false),(1,284,false),(2,285,false)],3,24,.agg [.int .i64 0,.nilf,.nilf]⟩:=krf
theorem Ij:tFn Tryz.prog 284:=kFn
theorem H9:tFn Tryz.prog 285:=kFn
theorem FP:ti Tryz.prog 333=some ⟨.struct [(0,3,false),(1,330,false),(2,331,false)],3,24,.agg [.int .i64 0,.nilf,.nilf]⟩:=krf
theorem K9:tFn Tryz.prog 330:=kFn
theorem I9:tFn Tryz.prog 331:=kFn
theorem FF:ti Tryz.prog 128=some ⟨.struct [(0,3,false),(1,125,false),(2,126,false)],3,24,.agg [.int .i64 0,.nilf,.nilf]⟩:=krf
theorem Gr:tFn Tryz.prog 125:=kFn
theorem HJ:tFn Tryz.prog 126:=kFn
theorem Ey:ti Tryz.prog 260=some ⟨.struct [(0,3,false),(1,257,false),(2,258,false)],3,24,.agg [.int .i64 0,.nilf,.nilf]⟩:=krf
theorem G2:tFn Tryz.prog 257:=kFn
theorem G4:tFn Tryz.prog 258:=kFn
attribute [go_sem] E3 IJ H6 F0 Ij H9 FP K9 I9 FF Gr HJ Ey G2 G4
theorem gv {n:Nat} {f:Fn}:AV.lt n (.func f [] []):=by rw [AV.lt];exact ⟨fun j hj=>absurd hj (by simp),fun j hj=>absurd hj (by simp)⟩
def cm (most:Int) (f r:Nat):List AV:=[.int .i64 most,.func (.func f) [] [],.func (.func r) [] []]
theorem gI {n:Nat} {most:Int} {f r:Nat}:ltL n (cm most f r):=by simp [cm,znu,znv,znf,gv]
theorem iC {α:Type} {g:α→Enc} (h1:∀ x,1≤(g x).b.length) {l:List α} {s:Enc} {m:Int} (hl:(s.add (bp g m l)).b.length≤dB):l.length≤100000000000000:=by
 have h2:=zc h1 l
 unfold bp at hl
 rw [dy,dy,bL] at hl
 omega
theorem dd {α:Type} {g:α→Enc} {l:List α} {s:Enc} {k:Nat} {x:α} (hk:k<l.length) (hx:x=l[k]) (hl:(s.add (b7 g l)).b.length≤dB) :
 (s.add (b7 g (l.take k))).add (g x)=s.add (b7 g (l.take (k+1)))∧((s.add (b7 g (l.take k))).add (g x)).b.length≤dB:=by
 have et:l.take (k+1)=l.take k++[x]:=by rw [hx,List.take_succ_eq_append_getElem hk]
 have es:(s.add (b7 g (l.take k))).add (g x)=s.add (b7 g (l.take (k+1))):=by rw [aG,← EE,et]
 refine ⟨es,?_⟩
 have h1:=FL g l (k+1)
 rw [es]
 rw [dy] at hl ⊢
 omega
theorem cr {H:AHeap} {id q:Nat} {X:List AV} {Y:AObj} (hn:id≠q) (hid:id<H.nx):aW ((H.set id (.cells X)).set q Y) id=some X:=by
 unfold aW;rw [AHeap.get_set_ne _ _ hn,AHeap.get_set_same _ _ hid]
theorem di {H:AHeap} {id q:Nat} {X o:AObj} (hn:id≠q) (h:H.get q=some o):(H.set id X).get q=some o:=by rw [AHeap.get_set_ne _ _ (fun e=>hn e.symm)];exact h
theorem dh {H:AHeap} {id q:Nat} {X Y Z:AObj}:((H.set id X).set q Y).set id Z=(H.set q Y).set id Z:=by
 exact Y69
theorem iE {H:AHeap} {id q n:Nat} {b:List UInt8} {sl sf sa:Bool} {most:Int}:swH H id q ((⟨b,sl,sf,sa⟩:Enc).add (dc n most))=(H.set q (.buf 1 (b.length+(iQ (n:Int) 2).length))).set id (.cells (swC q (b++iQ (n:Int) 2) (sl||decide ((n:Int) > most)) sf sa)):=by
 unfold swH Enc.add dc swC
 simp only [Bool.or_false,lAq]
theorem SOn.push2 {H:AHeap} {id q:Nat} {s:Enc} (h:SOn H id q s) (x y:AObj):SOn ((H.push x).push y) id q s:=(h.push x).push y
theorem bb {H:AHeap} {id q:Nat} {s:Enc}:(swH H id q s).nx=H.nx:=ak
theorem gU {n v:Nat}:(vv v).lt n:=by simp [vv,znr,znu,znv,znf]
theorem cx {n:Nat} (x:SField):(aH x).lt n:=by simp [aH,znr,znu,znv,znf,znh]
theorem cI {n:Nat} (x:SCase):(aX x).lt n:=by simp [aX,vc,znr,znu,znv,znf]
theorem ct {n:Nat} (x:SParam):(aK x).lt n:=by simp [aK,znr,znu,znv,znf,znh]
theorem cJ {n:Nat} (x:SPrim):(aT x).lt n:=by simp [aT,vc,znr,znu,znv,znf]
theorem db {n:Nat} (x:SKey):(aY x).lt n:=by simp [aY,znr,znu,znv,znf,znh]
theorem cw {n:Nat} (x:SStage):(aO x).lt n:=by simp [aO,znr,znu,znv,znf]
theorem dt {n:Nat} (x:SRef):(bh x).lt n:=by simp [bh,znr,znu,znv,znf]
theorem b9 {n:Nat} (x:SHeader):(az x).lt n:=by simp [az,inL,znr,znu,znv,znf,znh,aa fun _=>of_eq_true znf]
theorem cj {n:Nat} (x:SState):(aB x).lt n:=by simp [aB,znr,znu,znv,znf,aa cI]
theorem bK {n:Nat} (x:SAction):(ap x).lt n:=by simp [ap,znr,znu,znv,znf,znh,aa ct,aa cJ]
theorem cg {n:Nat} (x:SGrant):(aJ x).lt n:=by simp [aJ,boL,znr,znu,znv,znf,zng,aa fun _=>of_eq_true zng]
theorem cb {n:Nat} (x:STable):(ax x).lt n:=by simp [ax,inL,znr,znu,znv,znf,znh,aa fun _=>of_eq_true znf,aa db,aa fun _=>gU]
theorem cy {n:Nat} (x:SRole):(aN x).lt n:=by simp [aN,inL,znr,znu,znv,znf,znh,zng,aa fun _=>of_eq_true znf,aa cg]
theorem fC {zs cs:List AV} (h:zs.length=cs.length):splice zs 0 cs=cs:=by
 rw [lD zs cs 0 (by omega),yar,yak,ybf (by omega),yaj]
theorem lh {α:Type} {P:Program} {f wf sz:Nat} {c:α→AV} {ok:α→Prop} {g:α→Enc} (hone:∀ x,1≤(g x).b.length) (hlt:∀ n x,(c x).lt n) (hag:∀ x,∃ cs,c x=.agg cs∧cs.length=sz∧cP cs=true)
 (h:∀ (wf' sz':Nat) (c':α→AV) (ok':α→Prop) (g':α→Enc),wf'=wf→sz'=sz→c'=c→ok'=ok→g'=g→(∀ x,1≤(g' x).b.length)→(∀ n x,(c' x).lt n)→(∀ x,∃ cs,c' x=.agg cs∧cs.length=sz'∧cP cs=true)→∀ (id:Nat) (most:Int) (r q:Nat) (s:Enc) (l:List α) (H:AHeap),SOn H id q s→(∀ a∈l,ok' a)→(s.add (bp g' most l)).b.length≤dB→ACalls P f [.ptr id 0,.agg [.int .i64 most,.func (.func wf') [] [],.func (.func r) [] []],.slice .any sz' (l.map c')] H (.ret (.tup [])) (swH H id q (s.add (bp g' most l)))):EntOk P f (Ent.effect (mH wf sz c ok g)):=by
 refine EntOk.effect fun args H K hh=>?_
 unfold mH at hh
 split at hh
 ·obtain ⟨q,s,l,⟨hW,rfl,rfl,rfl,ha,hl⟩,hK⟩:=hh
  exact ⟨_,_,hK,h _ _ _ _ _ rfl rfl rfl rfl rfl hone hlt hag _ _ _ _ _ _ _ hW ha hl⟩
 ·exact hh.elim
def Ea:=eW (.int .i64) rN jU
def Ae:=mH 298 1 (.int .i64) rN jU
theorem G5:EEe 298 Ea:=by
 unfold Ea
 refine Yef fun _ H K h=>?_
 unfold eW at h
 split at h<;>try exact h.elim
 rename_i id x
 obtain ⟨q,s,a,⟨hW,rfl,ha,hl⟩,hK⟩:=h
 refine ⟨_,_,hK,?_⟩
 clear hK
 have hF:=hW.facts
 have hcl0:=hW.closed (t:=s.add (jU a))
 have hid:=glq hW.o
 have hq:=glq hW.bu
 refine Yfw aC (tCq jc tNq) Tryz.func298 [] (by rw [ak];omega) (T:=aA []) (h:=fun hcl=>?_)
 have hcl1:=hcl0 hcl
 unfold jU at hl hcl1 ⊢
 have hl1:=hl
 simp only [go_sem,ak,bb]
 refine cY (.inr rfl) hW hl1 ?_
 try simp only [go_sem,ak,bb]
 exact Z16
theorem rZ:EEe 197 Ae:=by
 unfold Ae
 refine Yef fun _ H K h=>?_
 unfold mH at h
 split at h<;>try exact h.elim
 rename_i id most f' r sz' xs
 obtain ⟨q,s,l,⟨hW,rfl,rfl,rfl,ha,hl⟩,hK⟩:=h
 refine ⟨_,_,hK,?_⟩
 clear hK
 have hF:=hW.facts
 have hcl0:=fun t=>hW.closed (t:=t)
 have hid:=glq hW.o
 have hq:=glq hW.bu
 have hll:=iC zh hl
 obtain ⟨b,sl,sf,sa⟩:=s
 have hne:=cN hid
 have hneq:=cN hq
 have n1:(id=q)=False:=eq_false hW.ne
 have n2:(q=id)=False:=eq_false fun e=>hW.ne e.symm
 have hcs:=aM hW.o
 have hb0:=hW.bu
 have hi0:=hW.o
 have hnn:=hW.ne
 have hlb:b.length≤dB:=aQ hl
 rw [bL] at hlb
 dsimp only at hcs hb0 hi0 hlb
 have lw2:=eY (l.length:Int) 2
 refine Yfw aC (tCq df (tCq G5 tNq)) Tryz.func197 [] (by rw [ak];omega) (T:=aA [(2,[[],[],[],[],[],[],[],[],[4,7],[],[],[4,7]])]) (h:=fun hcl=>?_)
 have hcl1:=fun t=>hcl0 t hcl
 have hcm:=fun cs=>@bM H id cs hid
 have hA:=fun X Y=>@cr H id q X Y hnn hid
 have hB:=fun X=>di (X:=X) hnn hb0
 have eh:=fun X Y Z=>@dh H id q X Y Z
 have hL2:sl=true→(sl||decide ((l.length:Int) > most))=true:=fun h=>by rw [h,Bool.true_or]
 have hL3:sl=false→decide ((l.length:Int) > most)=(sl||decide ((l.length:Int) > most)):=fun h=>by rw [h,Bool.false_or]
 have hst:=iE (H:=H) (id:=id) (q:=q) (b:=b) (sl:=sl) (sf:=sf) (sa:=sa) (n:=l.length) (most:=most)
 have hS1:=hW.next ((⟨b,sl,sf,sa⟩:Enc).add (dc l.length most))
 have htot:(((⟨b,sl,sf,sa⟩:Enc).add (dc l.length most)).add (b7 jU l))=(⟨b,sl,sf,sa⟩:Enc).add (bp jU most l):=by rw [aG];rfl
 rw [← htot] at hl ⊢
 generalize ((⟨b,sl,sf,sa⟩:Enc).add (dc l.length most))=s1 at *
 generalize (sl||decide ((l.length:Int) > most))=L at *
 have hlv:∀ n,(AV.slice .any 1 (l.map (.int .i64))).lt n:=fun n=>aa (fun x=>of_eq_true znf)
 have hlc:=fun n=>@gI n most 298 r
 cases sl
 case' true =>
  rw [hL2 rfl] at hst
  simp only [go_sem,byq,hne,hneq,n1,n2,hcs,hcm,hA,hB,eh,hi0,hb0,bx,ybb]
 case' false =>
  simp only [go_sem,byq,hne,hneq,n1,n2,hcs,hcm,hA,hB,eh,hi0,hb0,bx,ybb,hL3 rfl]
 all_goals
  (repeat with_reducible refine And.intro (by first|assumption|decide|omega|exact ⟨by omega,by omega⟩) ?_)
  refine aD (A:=Nat) (fun k=>[(0,.ptr id 0),(4,.ptr H.nx 0),(33,.slice .any 1 (l.map (.int .i64))),(34,.int .i64 (l.length:Int)),(35,.int .i64 (k:Int))])
   (fun k=>(swH H id q (s1.add (b7 jU (l.take k)))).push (.cells (cm most 298 r))) (fun k=>k≤l.length) (fun k=>l.length - k) 0 (by omega) ?_ fun k hk=>?_
  ·exact Y11
  refine Tq15 ?_
  refine ay (fun hc=>?_) (fun hc=>?_)
  ·have hk':k<l.length:=sHc
   obtain ⟨x,hx⟩:∃ x,x=l[k]:=⟨_,rfl⟩
   have hg:=cK (f:=.int .i64) (l:=l) (k:=k) (x:=x) (by rw [gQq hk',hx])
   have e5:=Yk5 k
   have hxo:=ha x (by rw [hx];exact gMq hk')
   obtain ⟨es,hlk⟩:=dd (g:=jU) hk' hx hl
   have hSk:=hW.next (s1.add (b7 jU (l.take k)))
   simp only [go_sem,iNq,ybb,hg,ak,cm,bL]
   refine ⟨by omega,?_⟩
   refine oQ (c:=.int .i64) hxo (hSk.push _) hlk ?_
   rw [hF.p1,es]
   exact Y12
  ·exact Y13
def fV:PCt
 |[.int .i64 most],_,K=>K (.agg (cm most 298 299))
 |_,_,_=>False
theorem uk:EPp 198 fV:=by
 refine Ype fun _ H K h=>?_
 unfold fV at h
 split at h<;>try exact h.elim
 refine ⟨_,h,?_⟩
 refine Yfv aC tNq Tryz.func198 [.cell 2 253] fun hcl hlt=>?_
 exact Y48
def AH:=mH 303 2 (vv) nM jY
theorem EW:EEe 217 AH:=by
 unfold AH
 refine Yef fun _ H K h=>?_
 unfold mH at h
 split at h<;>try exact h.elim
 rename_i id most f' r sz' xs
 obtain ⟨q,s,l,⟨hW,rfl,rfl,rfl,ha,hl⟩,hK⟩:=h
 refine ⟨_,_,hK,?_⟩
 clear hK
 have hF:=hW.facts
 have hcl0:=fun t=>hW.closed (t:=t)
 have hid:=glq hW.o
 have hq:=glq hW.bu
 have hll:=iC zd hl
 obtain ⟨b,sl,sf,sa⟩:=s
 have hne:=cN hid
 have hneq:=cN hq
 have n1:(id=q)=False:=eq_false hW.ne
 have n2:(q=id)=False:=eq_false fun e=>hW.ne e.symm
 have hcs:=aM hW.o
 have hb0:=hW.bu
 have hi0:=hW.o
 have hnn:=hW.ne
 have hlb:b.length≤dB:=aQ hl
 rw [bL] at hlb
 dsimp only at hcs hb0 hi0 hlb
 have lw2:=eY (l.length:Int) 2
 refine Yfw aC (tCq df (tCq yl tNq)) Tryz.func217 [] (by rw [ak];omega) (T:=aA [(2,[[],[],[],[],[],[],[],[],[4,7],[],[],[4,7]])]) (h:=fun hcl=>?_)
 have hcl1:=fun t=>hcl0 t hcl
 have hcm:=fun cs=>@bM H id cs hid
 have hA:=fun X Y=>@cr H id q X Y hnn hid
 have hB:=fun X=>di (X:=X) hnn hb0
 have eh:=fun X Y Z=>@dh H id q X Y Z
 have hL2:sl=true→(sl||decide ((l.length:Int) > most))=true:=fun h=>by rw [h,Bool.true_or]
 have hL3:sl=false→decide ((l.length:Int) > most)=(sl||decide ((l.length:Int) > most)):=fun h=>by rw [h,Bool.false_or]
 have hst:=iE (H:=H) (id:=id) (q:=q) (b:=b) (sl:=sl) (sf:=sf) (sa:=sa) (n:=l.length) (most:=most)
 have hS1:=hW.next ((⟨b,sl,sf,sa⟩:Enc).add (dc l.length most))
 have htot:(((⟨b,sl,sf,sa⟩:Enc).add (dc l.length most)).add (b7 jY l))=(⟨b,sl,sf,sa⟩:Enc).add (bp jY most l):=by rw [aG];rfl
 rw [← htot] at hl ⊢
 generalize ((⟨b,sl,sf,sa⟩:Enc).add (dc l.length most))=s1 at *
 generalize (sl||decide ((l.length:Int) > most))=L at *
 have hlv:∀ n,(AV.slice .any 2 (l.map (vv))).lt n:=fun n=>aa (fun x=>gU)
 have hlc:=fun n=>@gI n most 303 r
 cases sl
 case' true =>
  rw [hL2 rfl] at hst
  simp only [go_sem,byq,hne,hneq,n1,n2,hcs,hcm,hA,hB,eh,hi0,hb0,bx,ybb]
 case' false =>
  simp only [go_sem,byq,hne,hneq,n1,n2,hcs,hcm,hA,hB,eh,hi0,hb0,bx,ybb,hL3 rfl]
 all_goals
  (repeat with_reducible refine And.intro (by first|assumption|decide|omega|exact ⟨by omega,by omega⟩) ?_)
  refine aD (A:=Nat) (fun k=>[(0,.ptr id 0),(4,.ptr H.nx 0),(33,.slice .any 2 (l.map (vv))),(34,.int .i64 (l.length:Int)),(35,.int .i64 (k:Int))])
   (fun k=>(swH H id q (s1.add (b7 jY (l.take k)))).push (.cells (cm most 303 r))) (fun k=>k≤l.length) (fun k=>l.length - k) 0 (by omega) ?_ fun k hk=>?_
  ·exact Y11
  refine Tq15 ?_
  refine ay (fun hc=>?_) (fun hc=>?_)
  ·have hk':k<l.length:=sHc
   obtain ⟨x,hx⟩:∃ x,x=l[k]:=⟨_,rfl⟩
   have hg:=cK (f:=vv) (l:=l) (k:=k) (x:=x) (by rw [gQq hk',hx])
   have e5:=Yk5 k
   have hxo:=ha x (by rw [hx];exact gMq hk')
   obtain ⟨es,hlk⟩:=dd (g:=jY) hk' hx hl
   have hSk:=hW.next (s1.add (b7 jY (l.take k)))
   simp only [go_sem,iNq,ybb,hg,ak,vv,cm,bL]
   refine ⟨by omega,?_⟩
   refine tc hxo (hSk.push2 _ _) hlk ?_
   rw [hF.p2,es]
   exact Y12
  ·exact Y13
def kS:PCt
 |[],_,K=>K (.agg (cm 4 303 305))
 |_,_,_=>False
theorem J8:EPp 218 kS:=by
 refine Ype fun _ H K h=>?_
 unfold kS at h
 split at h<;>try exact h.elim
 refine ⟨_,h,?_⟩
 refine Yfv aC tNq Tryz.func218 [.cell 0 287] fun hcl hlt=>?_
 exact Y48
def zV:=mH 227 1 (.bool) rN ja
theorem F4:EEe 313 zV:=by
 unfold zV
 refine Yef fun _ H K h=>?_
 unfold mH at h
 split at h<;>try exact h.elim
 rename_i id most f' r sz' xs
 obtain ⟨q,s,l,⟨hW,rfl,rfl,rfl,ha,hl⟩,hK⟩:=h
 refine ⟨_,_,hK,?_⟩
 clear hK
 have hF:=hW.facts
 have hcl0:=fun t=>hW.closed (t:=t)
 have hid:=glq hW.o
 have hq:=glq hW.bu
 have hll:=iC AO hl
 obtain ⟨b,sl,sf,sa⟩:=s
 have hne:=cN hid
 have hneq:=cN hq
 have n1:(id=q)=False:=eq_false hW.ne
 have n2:(q=id)=False:=eq_false fun e=>hW.ne e.symm
 have hcs:=aM hW.o
 have hb0:=hW.bu
 have hi0:=hW.o
 have hnn:=hW.ne
 have hlb:b.length≤dB:=aQ hl
 rw [bL] at hlb
 dsimp only at hcs hb0 hi0 hlb
 have lw2:=eY (l.length:Int) 2
 refine Yfw aC (tCq df (tCq xS tNq)) Tryz.func313 [] (by rw [ak];omega) (T:=aA [(2,[[],[],[],[],[],[],[],[],[4,7],[],[],[4,7]])]) (h:=fun hcl=>?_)
 have hcl1:=fun t=>hcl0 t hcl
 have hcm:=fun cs=>@bM H id cs hid
 have hA:=fun X Y=>@cr H id q X Y hnn hid
 have hB:=fun X=>di (X:=X) hnn hb0
 have eh:=fun X Y Z=>@dh H id q X Y Z
 have hL2:sl=true→(sl||decide ((l.length:Int) > most))=true:=fun h=>by rw [h,Bool.true_or]
 have hL3:sl=false→decide ((l.length:Int) > most)=(sl||decide ((l.length:Int) > most)):=fun h=>by rw [h,Bool.false_or]
 have hst:=iE (H:=H) (id:=id) (q:=q) (b:=b) (sl:=sl) (sf:=sf) (sa:=sa) (n:=l.length) (most:=most)
 have hS1:=hW.next ((⟨b,sl,sf,sa⟩:Enc).add (dc l.length most))
 have htot:(((⟨b,sl,sf,sa⟩:Enc).add (dc l.length most)).add (b7 ja l))=(⟨b,sl,sf,sa⟩:Enc).add (bp ja most l):=by rw [aG];rfl
 rw [← htot] at hl ⊢
 generalize ((⟨b,sl,sf,sa⟩:Enc).add (dc l.length most))=s1 at *
 generalize (sl||decide ((l.length:Int) > most))=L at *
 have hlv:∀ n,(AV.slice .any 1 (l.map (.bool))).lt n:=fun n=>aa (fun x=>of_eq_true zng)
 have hlc:=fun n=>@gI n most 227 r
 cases sl
 case' true =>
  rw [hL2 rfl] at hst
  simp only [go_sem,byq,hne,hneq,n1,n2,hcs,hcm,hA,hB,eh,hi0,hb0,bx,ybb]
 case' false =>
  simp only [go_sem,byq,hne,hneq,n1,n2,hcs,hcm,hA,hB,eh,hi0,hb0,bx,ybb,hL3 rfl]
 all_goals
  (repeat with_reducible refine And.intro (by first|assumption|decide|omega|exact ⟨by omega,by omega⟩) ?_)
  refine aD (A:=Nat) (fun k=>[(0,.ptr id 0),(4,.ptr H.nx 0),(33,.slice .any 1 (l.map (.bool))),(34,.int .i64 (l.length:Int)),(35,.int .i64 (k:Int))])
   (fun k=>(swH H id q (s1.add (b7 ja (l.take k)))).push (.cells (cm most 227 r))) (fun k=>k≤l.length) (fun k=>l.length - k) 0 (by omega) ?_ fun k hk=>?_
  ·exact Y11
  refine Tq15 ?_
  refine ay (fun hc=>?_) (fun hc=>?_)
  ·have hk':k<l.length:=sHc
   obtain ⟨x,hx⟩:∃ x,x=l[k]:=⟨_,rfl⟩
   have hg:=cK (f:=.bool) (l:=l) (k:=k) (x:=x) (by rw [gQq hk',hx])
   have e5:=Yk5 k
   have hxo:=ha x (by rw [hx];exact gMq hk')
   obtain ⟨es,hlk⟩:=dd (g:=ja) hk' hx hl
   have hSk:=hW.next (s1.add (b7 ja (l.take k)))
   simp only [go_sem,iNq,ybb,hg,ak,cm,bL]
   refine ⟨by omega,?_⟩
   refine tt (hSk.push _) hlk ?_
   rw [hF.p1,es]
   exact Y12
  ·exact Y13
def oH:PCt
 |[],_,K=>K (.agg (cm 4 227 230))
 |_,_,_=>False
theorem GO:EPp 314 oH:=by
 refine Ype fun _ H K h=>?_
 unfold oH at h
 split at h<;>try exact h.elim
 refine ⟨_,h,?_⟩
 refine Yfv aC tNq Tryz.func314 [.cell 0 333] fun hcl hlt=>?_
 exact Y48
def C9:=eW (aH) yE gG
def G3:=mH 191 3 (aH) yE gG
theorem HP:EEe 191 C9:=by
 unfold C9
 refine Yef fun _ H K h=>?_
 unfold eW at h
 split at h<;>try exact h.elim
 rename_i id x
 obtain ⟨q,s,a,⟨hW,rfl,ha,hl⟩,hK⟩:=h
 refine ⟨_,_,hK,?_⟩
 clear hK
 have hF:=hW.facts
 have hcl0:=hW.closed (t:=s.add (gG a))
 have hid:=glq hW.o
 have hq:=glq hW.bu
 refine Yfw aC (tCq jc (tCq ou tNq)) Tryz.func191 [] (by rw [ak];omega) (T:=aA []) (h:=fun hcl=>?_)
 have hcl1:=hcl0 hcl
 unfold gG at hl hcl1 ⊢
 rw [← aG,← aG] at hl hcl1 ⊢
 have hl3:=hl
 have hl2:=aQ hl3
 have hl1:=aQ hl2
 simp only [go_sem,aH,ak,bb]
 refine cY (.inr rfl) (hW.push _) hl1 ?_
 rw [hF.p0]
 simp only [go_sem,aH,ak,bb]
 refine kY (ha) ((hW.next _).push _) hl2 ?_
 rw [hF.p1]
 simp only [go_sem,aH,ak,bb]
 refine cY (.inl rfl) ((hW.next _).push _) hl3 ?_
 rw [hF.p1]
 try simp only [go_sem,aH,ak,bb]
 exact Z16
theorem ET:EEe 59 G3:=lh xt (fun _ x=>cx x) (fun _=>⟨_,rfl,rfl,rfl⟩) fun wf sz c ok g ew es ec eo eg hone hlt' hag id most r q s l H hW ha hl=>by
 refine ACalls.fW aC (tCq df (tCq HP tNq)) Tryz.func59 [] (by rw [ak];omega) (T:=aA [(2,[[],[],[],[],[],[],[],[],[4,7],[],[],[4,7]])]) (h:=fun hcl hlt=>?_)
 exact Y0
def j7:PCt
 |[],_,K=>K (.agg (cm 32 191 193))
 |_,_,_=>False
theorem K7:EPp 60 j7:=by
 refine Ype fun _ H K h=>?_
 unfold j7 at h
 split at h<;>try exact h.elim
 refine ⟨_,h,?_⟩
 refine Yfv aC tNq Tryz.func60 [.cell 0 128] fun hcl hlt=>?_
 exact Y48
def DW:=eW (aX) pn mv
def K8:=mH 302 5 (aX) pn mv
theorem Ip:EEe 302 DW:=by
 unfold DW
 refine Yef fun _ H K h=>?_
 unfold eW at h
 split at h<;>try exact h.elim
 rename_i id x
 obtain ⟨q,s,a,⟨hW,rfl,ha,hl⟩,hK⟩:=h
 refine ⟨_,_,hK,?_⟩
 clear hK
 have hF:=hW.facts
 have hcl0:=hW.closed (t:=s.add (mv a))
 have hid:=glq hW.o
 have hq:=glq hW.bu
 refine Yfw aC (tCq yl (tCq jc tNq)) Tryz.func302 [] (by rw [ak];omega) (T:=aA []) (h:=fun hcl=>?_)
 have hcl1:=hcl0 hcl
 unfold mv at hl hcl1 ⊢
 rw [← aG,← aG] at hl hcl1 ⊢
 have hl3:=hl
 have hl2:=aQ hl3
 have hl1:=aQ hl2
 simp only [go_sem,aX,vc,ak,bb]
 refine tc (ha.1) (hW.push _) hl1 ?_
 rw [hF.p0]
 simp only [go_sem,aX,vc,ak,bb]
 refine tc (ha.2) ((hW.next _).push _) hl2 ?_
 rw [hF.p1]
 simp only [go_sem,aX,vc,ak,bb]
 refine cY (.inr rfl) ((hW.next _).push _) hl3 ?_
 rw [hF.p1]
 try simp only [go_sem,aX,vc,ak,bb]
 exact Z16
theorem Fy:EEe 202 K8:=lh zM (fun _ x=>cI x) (fun _=>⟨_,rfl,rfl,rfl⟩) fun wf sz c ok g ew es ec eo eg hone hlt' hag id most r q s l H hW ha hl=>by
 refine ACalls.fW aC (tCq df (tCq Ip tNq)) Tryz.func202 [] (by rw [ak];omega) (T:=aA [(2,[[],[],[],[],[],[],[],[],[4,7],[],[],[4,7]])]) (h:=fun hcl hlt=>?_)
 exact Y0
def ng:PCt
 |[],_,K=>K (.agg (cm 6 302 304))
 |_,_,_=>False
theorem Kj:EPp 203 ng:=by
 refine Ype fun _ H K h=>?_
 unfold ng at h
 split at h<;>try exact h.elim
 refine ⟨_,h,?_⟩
 refine Yfv aC tNq Tryz.func203 [.cell 0 260] fun hcl hlt=>?_
 exact Y48
theorem ER:ti Tryz.prog 267=some ⟨.struct [(0,3,false),(1,264,false),(2,265,false)],3,24,.agg [.int .i64 0,.nilf,.nilf]⟩:=krf
theorem Hn:tFn Tryz.prog 264:=kFn
theorem GC:tFn Tryz.prog 265:=kFn
theorem EU:ti Tryz.prog 273=some ⟨.struct [(0,3,false),(1,270,false),(2,271,false)],3,24,.agg [.int .i64 0,.nilf,.nilf]⟩:=krf
theorem HT:tFn Tryz.prog 270:=kFn
theorem Hv:tFn Tryz.prog 271:=kFn
theorem Fk:ti Tryz.prog 281=some ⟨.struct [(0,3,false),(1,278,false),(2,279,false)],3,24,.agg [.int .i64 0,.nilf,.nilf]⟩:=krf
theorem LO:tFn Tryz.prog 278:=kFn
theorem Gs:tFn Tryz.prog 279:=kFn
theorem Fi:ti Tryz.prog 158=some ⟨.struct [(0,3,false),(1,155,false),(2,156,false)],3,24,.agg [.int .i64 0,.nilf,.nilf]⟩:=krf
theorem K3:tFn Tryz.prog 155:=kFn
theorem Hy:tFn Tryz.prog 156:=kFn
theorem Fc:ti Tryz.prog 170=some ⟨.struct [(0,3,false),(1,167,false),(2,168,false)],3,24,.agg [.int .i64 0,.nilf,.nilf]⟩:=krf
theorem G8:tFn Tryz.prog 167:=kFn
theorem Jo:tFn Tryz.prog 168:=kFn
attribute [go_sem] ER Hn GC EU HT Hv Fk LO Gs Fi K3 Hy Fc G8 Jo
def Dt:=eW (aK) xR jr
def GQ:=mH 306 2 (aK) xR jr
theorem Lh:EEe 306 Dt:=by
 unfold Dt
 refine Yef fun _ H K h=>?_
 unfold eW at h
 split at h<;>try exact h.elim
 rename_i id x
 obtain ⟨q,s,a,⟨hW,rfl,ha,hl⟩,hK⟩:=h
 refine ⟨_,_,hK,?_⟩
 clear hK
 have hF:=hW.facts
 have hcl0:=hW.closed (t:=s.add (jr a))
 have hid:=glq hW.o
 have hq:=glq hW.bu
 refine Yfw aC (tCq ou (tCq jc tNq)) Tryz.func306 [] (by rw [ak];omega) (T:=aA []) (h:=fun hcl=>?_)
 have hcl1:=hcl0 hcl
 unfold jr at hl hcl1 ⊢
 rw [← aG] at hl hcl1 ⊢
 have hl2:=hl
 have hl1:=aQ hl2
 simp only [go_sem,aK,ak,bb]
 refine kY (ha) (hW.push _) hl1 ?_
 rw [hF.p0]
 simp only [go_sem,aK,ak,bb]
 refine cY (.inl rfl) ((hW.next _).push _) hl2 ?_
 rw [hF.p1]
 try simp only [go_sem,aK,ak,bb]
 exact Z16
theorem FG:EEe 207 GQ:=lh xz (fun _ x=>ct x) (fun _=>⟨_,rfl,rfl,rfl⟩) fun wf sz c ok g ew es ec eo eg hone hlt' hag id most r q s l H hW ha hl=>by
 refine ACalls.fW aC (tCq df (tCq Lh tNq)) Tryz.func207 [] (by rw [ak];omega) (T:=aA [(2,[[],[],[],[],[],[],[],[],[4,7],[],[],[4,7]])]) (h:=fun hcl hlt=>?_)
 exact Y0
def m8:PCt
 |[],_,K=>K (.agg (cm 4 306 307))
 |_,_,_=>False
theorem Lf:EPp 208 m8:=by
 refine Ype fun _ H K h=>?_
 unfold m8 at h
 split at h<;>try exact h.elim
 refine ⟨_,h,?_⟩
 refine Yfv aC tNq Tryz.func208 [.cell 0 267] fun hcl hlt=>?_
 exact Y48
def DS:=eW (aT) qP mJ
def Ir:=mH 308 6 (aT) qP mJ
theorem Hk:EEe 308 DS:=by
 unfold DS
 refine Yef fun _ H K h=>?_
 unfold eW at h
 split at h<;>try exact h.elim
 rename_i id x
 obtain ⟨q,s,a,⟨hW,rfl,ha,hl⟩,hK⟩:=h
 refine ⟨_,_,hK,?_⟩
 clear hK
 have hF:=hW.facts
 have hcl0:=hW.closed (t:=s.add (mJ a))
 have hid:=glq hW.o
 have hq:=glq hW.bu
 refine Yfw aC (tCq jc (tCq yl tNq)) Tryz.func308 [] (by rw [ak];omega) (T:=aA []) (h:=fun hcl=>?_)
 have hcl1:=hcl0 hcl
 unfold mJ at hl hcl1 ⊢
 rw [← aG,← aG,← aG,← aG] at hl hcl1 ⊢
 have hl5:=hl
 have hl4:=aQ hl5
 have hl3:=aQ hl4
 have hl2:=aQ hl3
 have hl1:=aQ hl2
 simp only [go_sem,aT,vc,ak,bb]
 refine cY (.inl rfl) (hW.push _) hl1 ?_
 rw [hF.p0]
 simp only [go_sem,aT,vc,ak,bb]
 refine cY (.inr rfl) ((hW.next _).push _) hl2 ?_
 rw [hF.p1]
 simp only [go_sem,aT,vc,ak,bb]
 refine cY (.inl rfl) ((hW.next _).push _) hl3 ?_
 rw [hF.p1]
 simp only [go_sem,aT,vc,ak,bb]
 refine cY (.inr rfl) ((hW.next _).push _) hl4 ?_
 rw [hF.p1]
 simp only [go_sem,aT,vc,ak,bb]
 refine tc (ha) ((hW.next _).push _) hl5 ?_
 rw [hF.p1]
 try simp only [go_sem,aT,vc,ak,bb]
 exact Z16
theorem FM:EEe 209 Ir:=lh zW (fun _ x=>cJ x) (fun _=>⟨_,rfl,rfl,rfl⟩) fun wf sz c ok g ew es ec eo eg hone hlt' hag id most r q s l H hW ha hl=>by
 refine ACalls.fW aC (tCq df (tCq Hk tNq)) Tryz.func209 [] (by rw [ak];omega) (T:=aA [(2,[[],[],[],[],[],[],[],[],[4,7],[],[],[4,7]])]) (h:=fun hcl hlt=>?_)
 exact Y0
def mZ:PCt
 |[],_,K=>K (.agg (cm 12 308 309))
 |_,_,_=>False
theorem Kn:EPp 210 mZ:=by
 refine Ype fun _ H K h=>?_
 unfold mZ at h
 split at h<;>try exact h.elim
 refine ⟨_,h,?_⟩
 refine Yfv aC tNq Tryz.func210 [.cell 0 273] fun hcl hlt=>?_
 exact Y48
def DZ:=eW (aY) J9 pI
def GP:=mH 310 3 (aY) J9 pI
theorem IP:EEe 310 DZ:=by
 unfold DZ
 refine Yef fun _ H K h=>?_
 unfold eW at h
 split at h<;>try exact h.elim
 rename_i id x
 obtain ⟨q,s,a,⟨hW,rfl,ha,hl⟩,hK⟩:=h
 refine ⟨_,_,hK,?_⟩
 clear hK
 have hF:=hW.facts
 have hcl0:=hW.closed (t:=s.add (pI a))
 have hid:=glq hW.o
 have hq:=glq hW.bu
 refine Yfw aC (tCq ou (tCq jc tNq)) Tryz.func310 [] (by rw [ak];omega) (T:=aA []) (h:=fun hcl=>?_)
 have hcl1:=hcl0 hcl
 unfold pI at hl hcl1 ⊢
 rw [← aG,← aG] at hl hcl1 ⊢
 have hl3:=hl
 have hl2:=aQ hl3
 have hl1:=aQ hl2
 simp only [go_sem,aY,ak,bb]
 refine kY (ha) (hW.push _) hl1 ?_
 rw [hF.p0]
 simp only [go_sem,aY,ak,bb]
 refine cY (.inr rfl) ((hW.next _).push _) hl2 ?_
 rw [hF.p1]
 simp only [go_sem,aY,ak,bb]
 refine cY (.inl rfl) ((hW.next _).push _) hl3 ?_
 rw [hF.p1]
 try simp only [go_sem,aY,ak,bb]
 exact Z16
theorem EQ:EEe 215 GP:=lh C8 (fun _ x=>db x) (fun _=>⟨_,rfl,rfl,rfl⟩) fun wf sz c ok g ew es ec eo eg hone hlt' hag id most r q s l H hW ha hl=>by
 refine ACalls.fW aC (tCq df (tCq IP tNq)) Tryz.func215 [] (by rw [ak];omega) (T:=aA [(2,[[],[],[],[],[],[],[],[],[4,7],[],[],[4,7]])]) (h:=fun hcl hlt=>?_)
 exact Y0
def kx:PCt
 |[],_,K=>K (.agg (cm 4 310 311))
 |_,_,_=>False
theorem HA:EPp 216 kx:=by
 refine Ype fun _ H K h=>?_
 unfold kx at h
 split at h<;>try exact h.elim
 refine ⟨_,h,?_⟩
 refine Yfv aC tNq Tryz.func216 [.cell 0 281] fun hcl hlt=>?_
 exact Y48
def Dg:=eW (aO) rN iy
def KD:=mH 222 2 (aO) rN iy
theorem KE:EEe 222 Dg:=by
 unfold Dg
 refine Yef fun _ H K h=>?_
 unfold eW at h
 split at h<;>try exact h.elim
 rename_i id x
 obtain ⟨q,s,a,⟨hW,rfl,ha,hl⟩,hK⟩:=h
 refine ⟨_,_,hK,?_⟩
 clear hK
 have hF:=hW.facts
 have hcl0:=hW.closed (t:=s.add (iy a))
 have hid:=glq hW.o
 have hq:=glq hW.bu
 refine Yfw aC (tCq jc tNq) Tryz.func222 [] (by rw [ak];omega) (T:=aA []) (h:=fun hcl=>?_)
 have hcl1:=hcl0 hcl
 unfold iy at hl hcl1 ⊢
 rw [← aG] at hl hcl1 ⊢
 have hl2:=hl
 have hl1:=aQ hl2
 simp only [go_sem,aO,ak,bb]
 refine cY (.inr rfl) (hW.push _) hl1 ?_
 rw [hF.p0]
 simp only [go_sem,aO,ak,bb]
 refine cY (.inr rfl) ((hW.next _).push _) hl2 ?_
 rw [hF.p1]
 try simp only [go_sem,aO,ak,bb]
 exact Z16
theorem Ga:EEe 69 KD:=lh xe (fun _ x=>cw x) (fun _=>⟨_,rfl,rfl,rfl⟩) fun wf sz c ok g ew es ec eo eg hone hlt' hag id most r q s l H hW ha hl=>by
 refine ACalls.fW aC (tCq df (tCq KE tNq)) Tryz.func69 [] (by rw [ak];omega) (T:=aA [(2,[[],[],[],[],[],[],[],[],[4,7],[],[],[4,7]])]) (h:=fun hcl hlt=>?_)
 exact Y0
def j5:PCt
 |[],_,K=>K (.agg (cm 12 222 223))
 |_,_,_=>False
theorem KX:EPp 70 j5:=by
 refine Ype fun _ H K h=>?_
 unfold j5 at h
 split at h<;>try exact h.elim
 refine ⟨_,h,?_⟩
 refine Yfv aC tNq Tryz.func70 [.cell 0 158] fun hcl hlt=>?_
 exact Y48
def DQ:=eW (bh) rN qG
def Gv:=mH 231 6 (bh) rN qG
theorem IK:EEe 231 DQ:=by
 unfold DQ
 refine Yef fun _ H K h=>?_
 unfold eW at h
 split at h<;>try exact h.elim
 rename_i id x
 obtain ⟨q,s,a,⟨hW,rfl,ha,hl⟩,hK⟩:=h
 refine ⟨_,_,hK,?_⟩
 clear hK
 have hF:=hW.facts
 have hcl0:=hW.closed (t:=s.add (qG a))
 have hid:=glq hW.o
 have hq:=glq hW.bu
 refine Yfw aC (tCq jc tNq) Tryz.func231 [] (by rw [ak];omega) (T:=aA []) (h:=fun hcl=>?_)
 have hcl1:=hcl0 hcl
 unfold qG at hl hcl1 ⊢
 rw [← aG,← aG,← aG,← aG,← aG] at hl hcl1 ⊢
 have hl6:=hl
 have hl5:=aQ hl6
 have hl4:=aQ hl5
 have hl3:=aQ hl4
 have hl2:=aQ hl3
 have hl1:=aQ hl2
 simp only [go_sem,bh,ak,bb]
 refine cY (.inr rfl) (hW.push _) hl1 ?_
 rw [hF.p0]
 simp only [go_sem,bh,ak,bb]
 refine cY (.inl rfl) ((hW.next _).push _) hl2 ?_
 rw [hF.p1]
 simp only [go_sem,bh,ak,bb]
 refine cY (.inr rfl) ((hW.next _).push _) hl3 ?_
 rw [hF.p1]
 simp only [go_sem,bh,ak,bb]
 refine cY (.inl rfl) ((hW.next _).push _) hl4 ?_
 rw [hF.p1]
 simp only [go_sem,bh,ak,bb]
 refine cY (.inr rfl) ((hW.next _).push _) hl5 ?_
 rw [hF.p1]
 simp only [go_sem,bh,ak,bb]
 refine cY (.inl rfl) ((hW.next _).push _) hl6 ?_
 rw [hF.p1]
 try simp only [go_sem,bh,ak,bb]
 exact Z16
theorem EJ:EEe 73 Gv:=lh CQ (fun _ x=>dt x) (fun _=>⟨_,rfl,rfl,rfl⟩) fun wf sz c ok g ew es ec eo eg hone hlt' hag id most r q s l H hW ha hl=>by
 refine ACalls.fW aC (tCq df (tCq IK tNq)) Tryz.func73 [] (by rw [ak];omega) (T:=aA [(2,[[],[],[],[],[],[],[],[],[4,7],[],[],[4,7]])]) (h:=fun hcl hlt=>?_)
 exact Y0
def j6:PCt
 |[],_,K=>K (.agg (cm 8 231 232))
 |_,_,_=>False
theorem Ja:EPp 74 j6:=by
 refine Ype fun _ H K h=>?_
 unfold j6 at h
 split at h<;>try exact h.elim
 refine ⟨_,h,?_⟩
 refine Yfv aC tNq Tryz.func74 [.cell 0 170] fun hcl hlt=>?_
 exact Y48
end Go.AL
