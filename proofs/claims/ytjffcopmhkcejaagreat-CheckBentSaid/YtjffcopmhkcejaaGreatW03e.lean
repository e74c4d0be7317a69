/- Lemmas of the proof; no condition. -/
import Derived.Test.YtjffcopmhkcejaaGreatW03c
set_option linter.all false
set_option maxRecDepth 10000
set_option maxHeartbeats 32000000
open Go Go.AL Go.Proofs
namespace Go.AL
theorem FX:ti Tryz.prog 247=some ⟨.struct [(0,3,false),(1,244,false),(2,245,false)],3,24,.agg [.int .i64 0,.nilf,.nilf]⟩:=krf
def HV:tFn Tryz.prog 244:=kFn
def MM:tFn Tryz.prog 245:=kFn
theorem Fh:ti Tryz.prog 281=some ⟨.struct [(0,3,false),(1,278,false),(2,279,false)],3,24,.agg [.int .i64 0,.nilf,.nilf]⟩:=krf
def MF:tFn Tryz.prog 278:=kFn
def IP:tFn Tryz.prog 279:=kFn
theorem Fa:ti Tryz.prog 328=some ⟨.struct [(0,3,false),(1,325,false),(2,326,false)],3,24,.agg [.int .i64 0,.nilf,.nilf]⟩:=krf
def Lk:tFn Tryz.prog 325:=kFn
def K4:tFn Tryz.prog 326:=kFn
theorem E3:ti Tryz.prog 118=some ⟨.struct [(0,3,false),(1,115,false),(2,116,false)],3,24,.agg [.int .i64 0,.nilf,.nilf]⟩:=krf
def JP:tFn Tryz.prog 115:=kFn
def He:tFn Tryz.prog 116:=kFn
theorem FZ:ti Tryz.prog 254=some ⟨.struct [(0,3,false),(1,251,false),(2,252,false)],3,24,.agg [.int .i64 0,.nilf,.nilf]⟩:=krf
def Hp:tFn Tryz.prog 251:=kFn
def Ll:tFn Tryz.prog 252:=kFn
attribute [go_sem] FX HV MM Fh MF IP Fa Lk K4 E3 JP He FZ Hp Ll
def gM{n:Nat}{f:Fn}:AV.lt n (.func f [] []):=by rw[AV.lt];exact⟨fun j hj=>absurd hj (by simp),fun j hj=>absurd hj Xc⟩
def cm(most:Int)(f r:Nat):Wz:=[.int .i64 most,.func (.func f) [] [],.func (.func r) [] []]
def gU{n:Nat}{most:Int}{f r:Nat}:ltL n (cm most f r):=by simp[cm,zns,znt,znd,gM]
def iU{α:Type}{g:α→Enc}(h1:∀ x,1≤(g x).b.length){l:List α}{s:Enc}{m:Int}(hl:(s.add (bn g m l)).b.length≤dX):l.length≤100000000000000:=by
 have h2:=zK h1 l
 unfold bn at hl
 rw[bm,bm,bF]at hl
 omega
def dw{α:Type}{g:α→Enc}{l:List α}{s:Enc}{k:Nat}{x:α}(hk:k<l.length)(hx:x=l[k])(hl:(s.add (bX g l)).b.length≤dX) :
 (s.add (bX g (l.take k))).add (g x)=s.add (bX g (l.take (k+1)))∧((s.add (bX g (l.take k))).add (g x)).b.length≤dX:=by
 have et:l.take (k+1)=l.take k++[x]:=by rw[hx,List.take_succ_eq_append_getElem hk]
 have es:(s.add (bX g (l.take k))).add (g x)=s.add (bX g (l.take (k+1))):=by rw[aI,← Fx,et]
 refine⟨es,?_⟩
 have h1:=EZ g l (k+1)
 rw[es]
 rw[bm]at hl ⊢
 omega
def cu{H:AHeap}{id q:Nat}{X:Wz}{Y:AObj}(hn:id≠q)(hid:id<H.nx):a8 ((H.set id (.cells X)).set q Y) id=some X:=by
 unfold a8;rw[AHeap.get_set_ne _ _ hn,AHeap.get_set_same _ _ hid]
def dx{H:AHeap}{id q:Nat}{X o:AObj}(hn:id≠q)(h:H.get q=some o):(H.set id X).get q=some o:=by rw[AHeap.get_set_ne _ _ (fun e=>hn e.symm)];exact h
def dz{H:AHeap}{id q:Nat}{X Y Z:AObj}:((H.set id X).set q Y).set id Z=(H.set q Y).set id Z:=by
 exact Y72
def iY{H:AHeap}{id q n:Nat}{b:By}{sl sf sa:Bool}{most:Int}:swH H id q ((⟨b,sl,sf,sa⟩:Enc).add (dy n most))=(H.set q (.buf 1 (b.length+(jl (n:Int) 2).length))).set id (.cells (swC q (b++jl (n:Int) 2) (sl||decide ((n:Int)>most)) sf sa)):=by
 unfold swH Enc.add dy swC
 simp only[Bool.or_false,lAq]
theorem SOn.push2{H:AHeap}{id q:Nat}{s:Enc}(h:SOn H id q s)(x y:AObj):SOn ((H.push x).push y) id q s:=(h.push x).push y
def bb{H:AHeap}{id q:Nat}{s:Enc}:(swH H id q s).nx=H.nx:=ak
def ib{n v:Nat}:(vv v).lt n:=by simp[vv,znp,zns,znt,znd]
def cz{n:Nat}(x:SField):(aJ x).lt n:=by simp[aJ,znp,zns,znt,znd,znf]
def cO{n:Nat}(x:SCase):(ba x).lt n:=by simp[ba,vc,znp,zns,znt,znd]
def cw{n:Nat}(x:SParam):(aL x).lt n:=by simp[aL,znp,zns,znt,znd,znf]
def cM{n:Nat}(x:SPrim):(aU x).lt n:=by simp[aU,vc,znp,zns,znt,znd]
def dt{n:Nat}(x:SKey):(aZ x).lt n:=by simp[aZ,znp,zns,znt,znd,znf]
def cy{n:Nat}(x:SStage):(aQ x).lt n:=by simp[aQ,znp,zns,znt,znd]
def dD{n:Nat}(x:SRef):(bc x).lt n:=by simp[bc,znp,zns,znt,znd]
def b9{n:Nat}(x:SHeader):(az x).lt n:=by simp[az,inL,znp,zns,znt,znd,znf,aa fun _=>of_eq_true znd]
def cg{n:Nat}(x:SState):(aE x).lt n:=by simp[aE,znp,zns,znt,znd,aa cO]
def bD{n:Nat}(x:SAction):(ap x).lt n:=by simp[ap,znp,zns,znt,znd,znf,aa cw,aa cM]
def cf{n:Nat}(x:SGrant):(aK x).lt n:=by simp[aK,boL,znp,zns,znt,znd,zne,aa fun _=>of_eq_true zne]
def bZ{n:Nat}(x:STable):(au x).lt n:=by simp[au,inL,znp,zns,znt,znd,znf,aa fun _=>of_eq_true znd,aa dt,aa fun _=>ib]
def cB{n:Nat}(x:SRole):(aP x).lt n:=by simp[aP,inL,znp,zns,znt,znd,znf,zne,aa fun _=>of_eq_true znd,aa cf]
def fU{zs cs:Wz}(h:zs.length=cs.length):splice zs 0 cs=cs:=by
 rw[mc zs cs 0 Xa,yar,yak,ybf Xa,yaj]
def lT{α:Type}{P:Program}{f wf sz:Nat}{c:α→AV}{ok:α→Prop}{g:α→Enc}(hone:∀ x,1≤(g x).b.length)(hlt:∀ n x,(c x).lt n)(hag:∀ x,∃ cs,c x=.agg cs∧cs.length=sz∧dp cs=true)
 (h:∀(wf' sz':Nat)(c':α→AV)(ok':α→Prop)(g':α→Enc),wf'=wf→sz'=sz→c'=c→ok'=ok→g'=g→(∀ x,1≤(g' x).b.length)→(∀ n x,(c' x).lt n)→(∀ x,∃ cs,c' x=.agg cs∧cs.length=sz'∧dp cs=true)→∀(id:Nat)(most:Int)(r q:Nat)(s:Enc)(l:List α)(H:AHeap),SOn H id q s→(∀ a∈l,ok' a)→(s.add (bn g' most l)).b.length≤dX→ACalls P f [.ptr id 0,.agg [.int .i64 most,.func (.func wf') [] [],.func (.func r) [] []],.slice .any sz' (l.map c')] H (.ret (.tup [])) (swH H id q (s.add (bn g' most l)))):EntOk P f (Ent.effect (nA wf sz c ok g)):=by
 refine EntOk.effect fun args H K hh=>?_
 unfold nA at hh
 split at hh
 ·obtain⟨q,s,l,⟨hW,rfl,rfl,rfl,ha,hl⟩,hK⟩:=hh
  exact⟨_,_,hK,h _ _ _ _ _ rfl rfl rfl rfl rfl hone hlt hag _ _ _ _ _ _ _ hW ha hl⟩
 ·exact hh.elim
def Eh:=eW (.int .i64) sA jP
def A5:=nA 289 1 (.int .i64) sA jP
def Jd:EEe 289 Eh:=by
 unfold Eh
 refine Yef fun _ H K h=>?_
 unfold eW at h
 split at h<;>try exact h.elim
 rename_i id x
 obtain⟨q,s,a,⟨hW,rfl,ha,hl⟩,hK⟩:=h
 refine⟨_,_,hK,?_⟩
 clear hK
 have hF:=hW.facts
 have hcl0:=hW.closed (t:=s.add (jP a))
 have hid:=glq hW.o
 have hq:=glq hW.bu
 refine Yfw aD (tCq jv tNq) Tryz.func289 [] Xh (T:=aC []) (h:=fun hcl=>?_)
 have hcl1:=hcl0 hcl
 unfold jP at hl hcl1 ⊢
 have hl1:=hl
 simp only[go_sem,ak,bb]
 refine dk (.inr rfl) hW hl1 ?_
 try simp only[go_sem,ak,bb]
 exact Z16
def ua:EEe 186 A5:=by
 unfold A5
 refine Yef fun _ H K h=>?_
 unfold nA at h
 split at h<;>try exact h.elim
 rename_i id most f' r sz' xs
 obtain⟨q,s,l,⟨hW,rfl,rfl,rfl,ha,hl⟩,hK⟩:=h
 refine⟨_,_,hK,?_⟩
 clear hK
 have hF:=hW.facts
 have hcl0:=fun t=>hW.closed (t:=t)
 have hid:=glq hW.o
 have hq:=glq hW.bu
 have hll:=iU Bq hl
 obtain⟨b,sl,sf,sa⟩:=s
 have hne:=cS hid
 have hneq:=cS hq
 have n1:(id=q)=False:=eq_false hW.ne
 have n2:(q=id)=False:=eq_false fun e=>hW.ne e.symm
 have hcs:=aB hW.o
 have hb0:=hW.bu
 have hi0:=hW.o
 have hnn:=hW.ne
 have hlb:b.length≤dX:=aT hl
 rw[bF]at hlb
 dsimp only at hcs hb0 hi0 hlb
 have lw2:=fm (l.length:Int) 2
 refine Yfw aD (tCq dr (tCq Jd tNq)) Tryz.func186 [] Xh (T:=aC [(2,[[],[],[],[],[],[],[],[],[4,7],[],[],[4,7]])]) (h:=fun hcl=>?_)
 have hcl1:=fun t=>hcl0 t hcl
 have hcm:=fun cs=>@bG H id cs hid
 have hA:=fun X Y=>@cu H id q X Y hnn hid
 have hB:=fun X=>dx (X:=X) hnn hb0
 have eh:=fun X Y Z=>@dz H id q X Y Z
 have hL2:sl=true→(sl||decide ((l.length:Int)>most))=true:=fun h=>by rw[h,Bool.true_or]
 have hL3:sl=false→decide ((l.length:Int)>most)=(sl||decide ((l.length:Int)>most)):=fun h=>by rw[h,Bool.false_or]
 have hst:=iY (H:=H) (id:=id) (q:=q) (b:=b) (sl:=sl) (sf:=sf) (sa:=sa) (n:=l.length) (most:=most)
 have hS1:=hW.next ((⟨b,sl,sf,sa⟩:Enc).add (dy l.length most))
 have htot:(((⟨b,sl,sf,sa⟩:Enc).add (dy l.length most)).add (bX jP l))=(⟨b,sl,sf,sa⟩:Enc).add (bn jP most l):=by rw[aI];rfl
 rw[← htot]at hl ⊢
 generalize ((⟨b,sl,sf,sa⟩:Enc).add (dy l.length most))=s1 at *
 generalize (sl||decide ((l.length:Int)>most))=L at *
 have hlv:∀ n,(AV.slice .any 1 (l.map (.int .i64))).lt n:=fun n=>aa (fun x=>of_eq_true znd)
 have hlc:=fun n=>@gU n most 289 r
 cases sl
 case' true =>
  rw[hL2 rfl]at hst
  simp only[go_sem,byq,hne,hneq,n1,n2,hcs,hcm,hA,hB,eh,hi0,hb0,bv,ybb]
 case' false =>
  simp only[go_sem,byq,hne,hneq,n1,n2,hcs,hcm,hA,hB,eh,hi0,hb0,bv,ybb,hL3 rfl]
 all_goals
  (repeat with_reducible refine And.intro (by first|assumption|decide|omega|exact⟨by omega,Xa⟩) ?_)
  refine aG (A:=Nat) (fun k=>[(0,.ptr id 0),(4,.ptr H.nx 0),(33,.slice .any 1 (l.map (.int .i64))),(34,.int .i64 (l.length:Int)),(35,.int .i64 (k:Int))])
   (fun k=>(swH H id q (s1.add (bX jP (l.take k)))).push (.cells (cm most 289 r))) (fun k=>k≤l.length) (fun k=>l.length-k) 0 Xa ?_ fun k hk=>?_
  ·exact Y11
  refine Tq20 ?_
  refine ax (fun hc=>?_) (fun hc=>?_)
  ·have hk':k<l.length:=sHc
   obtain⟨x,hx⟩:∃ x,x=l[k]:=⟨_,rfl⟩
   have hg:=cN (f:=.int .i64) (l:=l) (k:=k) (x:=x) (by rw[gQq hk',hx])
   have e5:=Yk5 k
   have hxo:=ha x (by rw[hx];exact gMq hk')
   obtain⟨es,hlk⟩:=dw (g:=jP) hk' hx hl
   have hSk:=hW.next (s1.add (bX jP (l.take k)))
   simp only[go_sem,iNq,ybb,hg,ak,cm,bF]
   refine⟨Xa,?_⟩
   refine pS (c:=.int .i64) hxo (hSk.push _) hlk ?_
   rw[hF.p1,es]
   exact Y12
  ·exact Y13
def gA:PCt
 |[.int .i64 most],_,K=>K (.agg (cm most 289 290))
 |_,_,_=>False
def wv:EPp 187 gA:=by
 refine Ype fun _ H K h=>?_
 unfold gA at h
 split at h<;>try exact h.elim
 refine⟨_,h,?_⟩
 refine Yfv aD tNq Tryz.func187 [.cell 2 247] fun hcl hlt=>?_
 exact Y48
def Ay:=nA 294 2 (vv) ng ko
def FV:EEe 206 Ay:=by
 unfold Ay
 refine Yef fun _ H K h=>?_
 unfold nA at h
 split at h<;>try exact h.elim
 rename_i id most f' r sz' xs
 obtain⟨q,s,l,⟨hW,rfl,rfl,rfl,ha,hl⟩,hK⟩:=h
 refine⟨_,_,hK,?_⟩
 clear hK
 have hF:=hW.facts
 have hcl0:=fun t=>hW.closed (t:=t)
 have hid:=glq hW.o
 have hq:=glq hW.bu
 have hll:=iU A2 hl
 obtain⟨b,sl,sf,sa⟩:=s
 have hne:=cS hid
 have hneq:=cS hq
 have n1:(id=q)=False:=eq_false hW.ne
 have n2:(q=id)=False:=eq_false fun e=>hW.ne e.symm
 have hcs:=aB hW.o
 have hb0:=hW.bu
 have hi0:=hW.o
 have hnn:=hW.ne
 have hlb:b.length≤dX:=aT hl
 rw[bF]at hlb
 dsimp only at hcs hb0 hi0 hlb
 have lw2:=fm (l.length:Int) 2
 refine Yfw aD (tCq dr (tCq zW tNq)) Tryz.func206 [] Xh (T:=aC [(2,[[],[],[],[],[],[],[],[],[4,7],[],[],[4,7]])]) (h:=fun hcl=>?_)
 have hcl1:=fun t=>hcl0 t hcl
 have hcm:=fun cs=>@bG H id cs hid
 have hA:=fun X Y=>@cu H id q X Y hnn hid
 have hB:=fun X=>dx (X:=X) hnn hb0
 have eh:=fun X Y Z=>@dz H id q X Y Z
 have hL2:sl=true→(sl||decide ((l.length:Int)>most))=true:=fun h=>by rw[h,Bool.true_or]
 have hL3:sl=false→decide ((l.length:Int)>most)=(sl||decide ((l.length:Int)>most)):=fun h=>by rw[h,Bool.false_or]
 have hst:=iY (H:=H) (id:=id) (q:=q) (b:=b) (sl:=sl) (sf:=sf) (sa:=sa) (n:=l.length) (most:=most)
 have hS1:=hW.next ((⟨b,sl,sf,sa⟩:Enc).add (dy l.length most))
 have htot:(((⟨b,sl,sf,sa⟩:Enc).add (dy l.length most)).add (bX ko l))=(⟨b,sl,sf,sa⟩:Enc).add (bn ko most l):=by rw[aI];rfl
 rw[← htot]at hl ⊢
 generalize ((⟨b,sl,sf,sa⟩:Enc).add (dy l.length most))=s1 at *
 generalize (sl||decide ((l.length:Int)>most))=L at *
 have hlv:∀ n,(AV.slice .any 2 (l.map (vv))).lt n:=fun n=>aa (fun x=>ib)
 have hlc:=fun n=>@gU n most 294 r
 cases sl
 case' true =>
  rw[hL2 rfl]at hst
  simp only[go_sem,byq,hne,hneq,n1,n2,hcs,hcm,hA,hB,eh,hi0,hb0,bv,ybb]
 case' false =>
  simp only[go_sem,byq,hne,hneq,n1,n2,hcs,hcm,hA,hB,eh,hi0,hb0,bv,ybb,hL3 rfl]
 all_goals
  (repeat with_reducible refine And.intro (by first|assumption|decide|omega|exact⟨by omega,Xa⟩) ?_)
  refine aG (A:=Nat) (fun k=>[(0,.ptr id 0),(4,.ptr H.nx 0),(33,.slice .any 2 (l.map (vv))),(34,.int .i64 (l.length:Int)),(35,.int .i64 (k:Int))])
   (fun k=>(swH H id q (s1.add (bX ko (l.take k)))).push (.cells (cm most 294 r))) (fun k=>k≤l.length) (fun k=>l.length-k) 0 Xa ?_ fun k hk=>?_
  ·exact Y11
  refine Tq20 ?_
  refine ax (fun hc=>?_) (fun hc=>?_)
  ·have hk':k<l.length:=sHc
   obtain⟨x,hx⟩:∃ x,x=l[k]:=⟨_,rfl⟩
   have hg:=cN (f:=vv) (l:=l) (k:=k) (x:=x) (by rw[gQq hk',hx])
   have e5:=Yk5 k
   have hxo:=ha x (by rw[hx];exact gMq hk')
   obtain⟨es,hlk⟩:=dw (g:=ko) hk' hx hl
   have hSk:=hW.next (s1.add (bX ko (l.take k)))
   simp only[go_sem,iNq,ybb,hg,ak,vv,cm,bF]
   refine⟨Xa,?_⟩
   refine uD hxo (hSk.push2 _ _) hlk ?_
   rw[hF.p2,es]
   exact Y12
  ·exact Y13
def lh:PCt
 |[],_,K=>K (.agg (cm 4 294 296))
 |_,_,_=>False
def Kn:EPp 207 lh:=by
 refine Ype fun _ H K h=>?_
 unfold lh at h
 split at h<;>try exact h.elim
 refine⟨_,h,?_⟩
 refine Yfv aD tNq Tryz.func207 [.cell 0 281] fun hcl hlt=>?_
 exact Y48
def BE:=nA 216 1 (.bool) sA jf
def E8:EEe 304 BE:=by
 unfold BE
 refine Yef fun _ H K h=>?_
 unfold nA at h
 split at h<;>try exact h.elim
 rename_i id most f' r sz' xs
 obtain⟨q,s,l,⟨hW,rfl,rfl,rfl,ha,hl⟩,hK⟩:=h
 refine⟨_,_,hK,?_⟩
 clear hK
 have hF:=hW.facts
 have hcl0:=fun t=>hW.closed (t:=t)
 have hid:=glq hW.o
 have hq:=glq hW.bu
 have hll:=iU Bo hl
 obtain⟨b,sl,sf,sa⟩:=s
 have hne:=cS hid
 have hneq:=cS hq
 have n1:(id=q)=False:=eq_false hW.ne
 have n2:(q=id)=False:=eq_false fun e=>hW.ne e.symm
 have hcs:=aB hW.o
 have hb0:=hW.bu
 have hi0:=hW.o
 have hnn:=hW.ne
 have hlb:b.length≤dX:=aT hl
 rw[bF]at hlb
 dsimp only at hcs hb0 hi0 hlb
 have lw2:=fm (l.length:Int) 2
 refine Yfw aD (tCq dr (tCq z6 tNq)) Tryz.func304 [] Xh (T:=aC [(2,[[],[],[],[],[],[],[],[],[4,7],[],[],[4,7]])]) (h:=fun hcl=>?_)
 have hcl1:=fun t=>hcl0 t hcl
 have hcm:=fun cs=>@bG H id cs hid
 have hA:=fun X Y=>@cu H id q X Y hnn hid
 have hB:=fun X=>dx (X:=X) hnn hb0
 have eh:=fun X Y Z=>@dz H id q X Y Z
 have hL2:sl=true→(sl||decide ((l.length:Int)>most))=true:=fun h=>by rw[h,Bool.true_or]
 have hL3:sl=false→decide ((l.length:Int)>most)=(sl||decide ((l.length:Int)>most)):=fun h=>by rw[h,Bool.false_or]
 have hst:=iY (H:=H) (id:=id) (q:=q) (b:=b) (sl:=sl) (sf:=sf) (sa:=sa) (n:=l.length) (most:=most)
 have hS1:=hW.next ((⟨b,sl,sf,sa⟩:Enc).add (dy l.length most))
 have htot:(((⟨b,sl,sf,sa⟩:Enc).add (dy l.length most)).add (bX jf l))=(⟨b,sl,sf,sa⟩:Enc).add (bn jf most l):=by rw[aI];rfl
 rw[← htot]at hl ⊢
 generalize ((⟨b,sl,sf,sa⟩:Enc).add (dy l.length most))=s1 at *
 generalize (sl||decide ((l.length:Int)>most))=L at *
 have hlv:∀ n,(AV.slice .any 1 (l.map (.bool))).lt n:=fun n=>aa (fun x=>of_eq_true zne)
 have hlc:=fun n=>@gU n most 216 r
 cases sl
 case' true =>
  rw[hL2 rfl]at hst
  simp only[go_sem,byq,hne,hneq,n1,n2,hcs,hcm,hA,hB,eh,hi0,hb0,bv,ybb]
 case' false =>
  simp only[go_sem,byq,hne,hneq,n1,n2,hcs,hcm,hA,hB,eh,hi0,hb0,bv,ybb,hL3 rfl]
 all_goals
  (repeat with_reducible refine And.intro (by first|assumption|decide|omega|exact⟨by omega,Xa⟩) ?_)
  refine aG (A:=Nat) (fun k=>[(0,.ptr id 0),(4,.ptr H.nx 0),(33,.slice .any 1 (l.map (.bool))),(34,.int .i64 (l.length:Int)),(35,.int .i64 (k:Int))])
   (fun k=>(swH H id q (s1.add (bX jf (l.take k)))).push (.cells (cm most 216 r))) (fun k=>k≤l.length) (fun k=>l.length-k) 0 Xa ?_ fun k hk=>?_
  ·exact Y11
  refine Tq20 ?_
  refine ax (fun hc=>?_) (fun hc=>?_)
  ·have hk':k<l.length:=sHc
   obtain⟨x,hx⟩:∃ x,x=l[k]:=⟨_,rfl⟩
   have hg:=cN (f:=.bool) (l:=l) (k:=k) (x:=x) (by rw[gQq hk',hx])
   have e5:=Yk5 k
   have hxo:=ha x (by rw[hx];exact gMq hk')
   obtain⟨es,hlk⟩:=dw (g:=jf) hk' hx hl
   have hSk:=hW.next (s1.add (bX jf (l.take k)))
   simp only[go_sem,iNq,ybb,hg,ak,cm,bF]
   refine⟨Xa,?_⟩
   refine ux (hSk.push _) hlk ?_
   rw[hF.p1,es]
   exact Y12
  ·exact Y13
def py:PCt
 |[],_,K=>K (.agg (cm 4 216 219))
 |_,_,_=>False
def Mv:EPp 305 py:=by
 refine Ype fun _ H K h=>?_
 unfold py at h
 split at h<;>try exact h.elim
 refine⟨_,h,?_⟩
 refine Yfv aD tNq Tryz.func305 [.cell 0 328] fun hcl hlt=>?_
 exact Y48
def Ej:=eW (aJ) yX gy
def L7:=nA 180 3 (aJ) yX gy
def Lo:EEe 180 Ej:=by
 unfold Ej
 refine Yef fun _ H K h=>?_
 unfold eW at h
 split at h<;>try exact h.elim
 rename_i id x
 obtain⟨q,s,a,⟨hW,rfl,ha,hl⟩,hK⟩:=h
 refine⟨_,_,hK,?_⟩
 clear hK
 have hF:=hW.facts
 have hcl0:=hW.closed (t:=s.add (gy a))
 have hid:=glq hW.o
 have hq:=glq hW.bu
 refine Yfw aD (tCq jv (tCq pl tNq)) Tryz.func180 [] Xh (T:=aC []) (h:=fun hcl=>?_)
 have hcl1:=hcl0 hcl
 unfold gy at hl hcl1 ⊢
 rw[← aI,← aI]at hl hcl1 ⊢
 have hl3:=hl
 have hl2:=aT hl3
 have hl1:=aT hl2
 simp only[go_sem,aJ,ak,bb]
 refine dk (.inr rfl) (hW.push _) hl1 ?_
 rw[hF.p0]
 simp only[go_sem,aJ,ak,bb]
 refine lJ (ha) ((hW.next _).push _) hl2 ?_
 rw[hF.p1]
 simp only[go_sem,aJ,ak,bb]
 refine dk (.inl rfl) ((hW.next _).push _) hl3 ?_
 rw[hF.p1]
 try simp only[go_sem,aJ,ak,bb]
 exact Z16
def F9:EEe 48 L7:=lT yD (fun _ x=>cz x) (fun _=>⟨_,rfl,rfl,rfl⟩) fun wf sz c ok g ew es ec eo eg hone hlt' hag id most r q s l H hW ha hl=>by
 refine ACalls.fW aD (tCq dr (tCq Lo tNq)) Tryz.func48 [] Xh (T:=aC [(2,[[],[],[],[],[],[],[],[],[4,7],[],[],[4,7]])]) (h:=fun hcl hlt=>?_)
 exact Y0
def kB:PCt
 |[],_,K=>K (.agg (cm 32 180 182))
 |_,_,_=>False
def KU:EPp 49 kB:=by
 refine Ype fun _ H K h=>?_
 unfold kB at h
 split at h<;>try exact h.elim
 refine⟨_,h,?_⟩
 refine Yfv aD tNq Tryz.func49 [.cell 0 118] fun hcl hlt=>?_
 exact Y48
def DZ:=eW (ba) rW mu
def LQ:=nA 293 5 (ba) rW mu
def L5:EEe 293 DZ:=by
 unfold DZ
 refine Yef fun _ H K h=>?_
 unfold eW at h
 split at h<;>try exact h.elim
 rename_i id x
 obtain⟨q,s,a,⟨hW,rfl,ha,hl⟩,hK⟩:=h
 refine⟨_,_,hK,?_⟩
 clear hK
 have hF:=hW.facts
 have hcl0:=hW.closed (t:=s.add (mu a))
 have hid:=glq hW.o
 have hq:=glq hW.bu
 refine Yfw aD (tCq zW (tCq jv tNq)) Tryz.func293 [] Xh (T:=aC []) (h:=fun hcl=>?_)
 have hcl1:=hcl0 hcl
 unfold mu at hl hcl1 ⊢
 rw[← aI,← aI]at hl hcl1 ⊢
 have hl3:=hl
 have hl2:=aT hl3
 have hl1:=aT hl2
 simp only[go_sem,ba,vc,ak,bb]
 refine uD (ha.1) (hW.push _) hl1 ?_
 rw[hF.p0]
 simp only[go_sem,ba,vc,ak,bb]
 refine uD (ha.2) ((hW.next _).push _) hl2 ?_
 rw[hF.p1]
 simp only[go_sem,ba,vc,ak,bb]
 refine dk (.inr rfl) ((hW.next _).push _) hl3 ?_
 rw[hF.p1]
 try simp only[go_sem,ba,vc,ak,bb]
 exact Z16
def F0:EEe 191 LQ:=lT Bu (fun _ x=>cO x) (fun _=>⟨_,rfl,rfl,rfl⟩) fun wf sz c ok g ew es ec eo eg hone hlt' hag id most r q s l H hW ha hl=>by
 refine ACalls.fW aD (tCq dr (tCq L5 tNq)) Tryz.func191 [] Xh (T:=aC [(2,[[],[],[],[],[],[],[],[],[4,7],[],[],[4,7]])]) (h:=fun hcl hlt=>?_)
 exact Y0
def nG:PCt
 |[],_,K=>K (.agg (cm 6 293 295))
 |_,_,_=>False
def Kw:EPp 192 nG:=by
 refine Ype fun _ H K h=>?_
 unfold nG at h
 split at h<;>try exact h.elim
 refine⟨_,h,?_⟩
 refine Yfv aD tNq Tryz.func192 [.cell 0 254] fun hcl hlt=>?_
 exact Y48
theorem E2:ti Tryz.prog 261=some ⟨.struct [(0,3,false),(1,258,false),(2,259,false)],3,24,.agg [.int .i64 0,.nilf,.nilf]⟩:=krf
def Ky:tFn Tryz.prog 258:=kFn
def Jl:tFn Tryz.prog 259:=kFn
theorem GL:ti Tryz.prog 267=some ⟨.struct [(0,3,false),(1,264,false),(2,265,false)],3,24,.agg [.int .i64 0,.nilf,.nilf]⟩:=krf
def Jr:tFn Tryz.prog 264:=kFn
def Kh:tFn Tryz.prog 265:=kFn
theorem GK:ti Tryz.prog 275=some ⟨.struct [(0,3,false),(1,272,false),(2,273,false)],3,24,.agg [.int .i64 0,.nilf,.nilf]⟩:=krf
def MB:tFn Tryz.prog 272:=kFn
def KA:tFn Tryz.prog 273:=kFn
theorem F5:ti Tryz.prog 148=some ⟨.struct [(0,3,false),(1,145,false),(2,146,false)],3,24,.agg [.int .i64 0,.nilf,.nilf]⟩:=krf
def LI:tFn Tryz.prog 145:=kFn
def Ks:tFn Tryz.prog 146:=kFn
theorem Gn:ti Tryz.prog 160=some ⟨.struct [(0,3,false),(1,157,false),(2,158,false)],3,24,.agg [.int .i64 0,.nilf,.nilf]⟩:=krf
def IR:tFn Tryz.prog 157:=kFn
def Kv:tFn Tryz.prog 158:=kFn
attribute [go_sem] E2 Ky Jl GL Jr Kh GK MB KA F5 LI Ks Gn IR Kv
def DN:=eW (aL) y9 jq
def MC:=nA 297 2 (aL) y9 jq
def Mq:EEe 297 DN:=by
 unfold DN
 refine Yef fun _ H K h=>?_
 unfold eW at h
 split at h<;>try exact h.elim
 rename_i id x
 obtain⟨q,s,a,⟨hW,rfl,ha,hl⟩,hK⟩:=h
 refine⟨_,_,hK,?_⟩
 clear hK
 have hF:=hW.facts
 have hcl0:=hW.closed (t:=s.add (jq a))
 have hid:=glq hW.o
 have hq:=glq hW.bu
 refine Yfw aD (tCq pl (tCq jv tNq)) Tryz.func297 [] Xh (T:=aC []) (h:=fun hcl=>?_)
 have hcl1:=hcl0 hcl
 unfold jq at hl hcl1 ⊢
 rw[← aI]at hl hcl1 ⊢
 have hl2:=hl
 have hl1:=aT hl2
 simp only[go_sem,aL,ak,bb]
 refine lJ (ha) (hW.push _) hl1 ?_
 rw[hF.p0]
 simp only[go_sem,aL,ak,bb]
 refine dk (.inl rfl) ((hW.next _).push _) hl2 ?_
 rw[hF.p1]
 try simp only[go_sem,aL,ak,bb]
 exact Z16
def GI:EEe 196 MC:=lT x6 (fun _ x=>cw x) (fun _=>⟨_,rfl,rfl,rfl⟩) fun wf sz c ok g ew es ec eo eg hone hlt' hag id most r q s l H hW ha hl=>by
 refine ACalls.fW aD (tCq dr (tCq Mq tNq)) Tryz.func196 [] Xh (T:=aC [(2,[[],[],[],[],[],[],[],[],[4,7],[],[],[4,7]])]) (h:=fun hcl hlt=>?_)
 exact Y0
def nN:PCt
 |[],_,K=>K (.agg (cm 4 297 298))
 |_,_,_=>False
def Hq:EPp 197 nN:=by
 refine Ype fun _ H K h=>?_
 unfold nN at h
 split at h<;>try exact h.elim
 refine⟨_,h,?_⟩
 refine Yfv aD tNq Tryz.func197 [.cell 0 261] fun hcl hlt=>?_
 exact Y48
def Ex:=eW (aU) vr mM
def JE:=nA 299 6 (aU) vr mM
def ML:EEe 299 Ex:=by
 unfold Ex
 refine Yef fun _ H K h=>?_
 unfold eW at h
 split at h<;>try exact h.elim
 rename_i id x
 obtain⟨q,s,a,⟨hW,rfl,ha,hl⟩,hK⟩:=h
 refine⟨_,_,hK,?_⟩
 clear hK
 have hF:=hW.facts
 have hcl0:=hW.closed (t:=s.add (mM a))
 have hid:=glq hW.o
 have hq:=glq hW.bu
 refine Yfw aD (tCq jv (tCq zW tNq)) Tryz.func299 [] Xh (T:=aC []) (h:=fun hcl=>?_)
 have hcl1:=hcl0 hcl
 unfold mM at hl hcl1 ⊢
 rw[← aI,← aI,← aI,← aI]at hl hcl1 ⊢
 have hl5:=hl
 have hl4:=aT hl5
 have hl3:=aT hl4
 have hl2:=aT hl3
 have hl1:=aT hl2
 simp only[go_sem,aU,vc,ak,bb]
 refine dk (.inl rfl) (hW.push _) hl1 ?_
 rw[hF.p0]
 simp only[go_sem,aU,vc,ak,bb]
 refine dk (.inr rfl) ((hW.next _).push _) hl2 ?_
 rw[hF.p1]
 simp only[go_sem,aU,vc,ak,bb]
 refine dk (.inl rfl) ((hW.next _).push _) hl3 ?_
 rw[hF.p1]
 simp only[go_sem,aU,vc,ak,bb]
 refine dk (.inr rfl) ((hW.next _).push _) hl4 ?_
 rw[hF.p1]
 simp only[go_sem,aU,vc,ak,bb]
 refine uD (ha) ((hW.next _).push _) hl5 ?_
 rw[hF.p1]
 try simp only[go_sem,aU,vc,ak,bb]
 exact Z16
def Fp:EEe 198 JE:=lT Bx (fun _ x=>cM x) (fun _=>⟨_,rfl,rfl,rfl⟩) fun wf sz c ok g ew es ec eo eg hone hlt' hag id most r q s l H hW ha hl=>by
 refine ACalls.fW aD (tCq dr (tCq ML tNq)) Tryz.func198 [] Xh (T:=aC [(2,[[],[],[],[],[],[],[],[],[4,7],[],[],[4,7]])]) (h:=fun hcl hlt=>?_)
 exact Y0
def nW:PCt
 |[],_,K=>K (.agg (cm 12 299 300))
 |_,_,_=>False
def Mo:EPp 199 nW:=by
 refine Ype fun _ H K h=>?_
 unfold nW at h
 split at h<;>try exact h.elim
 refine⟨_,h,?_⟩
 refine Yfv aD tNq Tryz.func199 [.cell 0 267] fun hcl hlt=>?_
 exact Y48
def EG:=eW (aZ) JC pH
def H8:=nA 301 3 (aZ) JC pH
def Mr:EEe 301 EG:=by
 unfold EG
 refine Yef fun _ H K h=>?_
 unfold eW at h
 split at h<;>try exact h.elim
 rename_i id x
 obtain⟨q,s,a,⟨hW,rfl,ha,hl⟩,hK⟩:=h
 refine⟨_,_,hK,?_⟩
 clear hK
 have hF:=hW.facts
 have hcl0:=hW.closed (t:=s.add (pH a))
 have hid:=glq hW.o
 have hq:=glq hW.bu
 refine Yfw aD (tCq pl (tCq jv tNq)) Tryz.func301 [] Xh (T:=aC []) (h:=fun hcl=>?_)
 have hcl1:=hcl0 hcl
 unfold pH at hl hcl1 ⊢
 rw[← aI,← aI]at hl hcl1 ⊢
 have hl3:=hl
 have hl2:=aT hl3
 have hl1:=aT hl2
 simp only[go_sem,aZ,ak,bb]
 refine lJ (ha) (hW.push _) hl1 ?_
 rw[hF.p0]
 simp only[go_sem,aZ,ak,bb]
 refine dk (.inr rfl) ((hW.next _).push _) hl2 ?_
 rw[hF.p1]
 simp only[go_sem,aZ,ak,bb]
 refine dk (.inl rfl) ((hW.next _).push _) hl3 ?_
 rw[hF.p1]
 try simp only[go_sem,aZ,ak,bb]
 exact Z16
def FL:EEe 204 H8:=lT DC (fun _ x=>dt x) (fun _=>⟨_,rfl,rfl,rfl⟩) fun wf sz c ok g ew es ec eo eg hone hlt' hag id most r q s l H hW ha hl=>by
 refine ACalls.fW aD (tCq dr (tCq Mr tNq)) Tryz.func204 [] Xh (T:=aC [(2,[[],[],[],[],[],[],[],[],[4,7],[],[],[4,7]])]) (h:=fun hcl hlt=>?_)
 exact Y0
def kZ:PCt
 |[],_,K=>K (.agg (cm 4 301 302))
 |_,_,_=>False
def Ht:EPp 205 kZ:=by
 refine Ype fun _ H K h=>?_
 unfold kZ at h
 split at h<;>try exact h.elim
 refine⟨_,h,?_⟩
 refine Yfv aD tNq Tryz.func205 [.cell 0 275] fun hcl hlt=>?_
 exact Y48
def Dw:=eW (aQ) sA hZ
def Kx:=nA 211 2 (aQ) sA hZ
def I4:EEe 211 Dw:=by
 unfold Dw
 refine Yef fun _ H K h=>?_
 unfold eW at h
 split at h<;>try exact h.elim
 rename_i id x
 obtain⟨q,s,a,⟨hW,rfl,ha,hl⟩,hK⟩:=h
 refine⟨_,_,hK,?_⟩
 clear hK
 have hF:=hW.facts
 have hcl0:=hW.closed (t:=s.add (hZ a))
 have hid:=glq hW.o
 have hq:=glq hW.bu
 refine Yfw aD (tCq jv tNq) Tryz.func211 [] Xh (T:=aC []) (h:=fun hcl=>?_)
 have hcl1:=hcl0 hcl
 unfold hZ at hl hcl1 ⊢
 rw[← aI]at hl hcl1 ⊢
 have hl2:=hl
 have hl1:=aT hl2
 simp only[go_sem,aQ,ak,bb]
 refine dk (.inr rfl) (hW.push _) hl1 ?_
 rw[hF.p0]
 simp only[go_sem,aQ,ak,bb]
 refine dk (.inr rfl) ((hW.next _).push _) hl2 ?_
 rw[hF.p1]
 try simp only[go_sem,aQ,ak,bb]
 exact Z16
def FB:EEe 58 Kx:=lT yg (fun _ x=>cy x) (fun _=>⟨_,rfl,rfl,rfl⟩) fun wf sz c ok g ew es ec eo eg hone hlt' hag id most r q s l H hW ha hl=>by
 refine ACalls.fW aD (tCq dr (tCq I4 tNq)) Tryz.func58 [] Xh (T:=aC [(2,[[],[],[],[],[],[],[],[],[4,7],[],[],[4,7]])]) (h:=fun hcl hlt=>?_)
 exact Y0
def kA:PCt
 |[],_,K=>K (.agg (cm 12 211 212))
 |_,_,_=>False
def L6:EPp 59 kA:=by
 refine Ype fun _ H K h=>?_
 unfold kA at h
 split at h<;>try exact h.elim
 refine⟨_,h,?_⟩
 refine Yfv aD tNq Tryz.func59 [.cell 0 148] fun hcl hlt=>?_
 exact Y48
def Er:=eW (bc) sA pU
def I7:=nA 220 6 (bc) sA pU
def Jg:EEe 220 Er:=by
 unfold Er
 refine Yef fun _ H K h=>?_
 unfold eW at h
 split at h<;>try exact h.elim
 rename_i id x
 obtain⟨q,s,a,⟨hW,rfl,ha,hl⟩,hK⟩:=h
 refine⟨_,_,hK,?_⟩
 clear hK
 have hF:=hW.facts
 have hcl0:=hW.closed (t:=s.add (pU a))
 have hid:=glq hW.o
 have hq:=glq hW.bu
 refine Yfw aD (tCq jv tNq) Tryz.func220 [] Xh (T:=aC []) (h:=fun hcl=>?_)
 have hcl1:=hcl0 hcl
 unfold pU at hl hcl1 ⊢
 rw[← aI,← aI,← aI,← aI,← aI]at hl hcl1 ⊢
 have hl6:=hl
 have hl5:=aT hl6
 have hl4:=aT hl5
 have hl3:=aT hl4
 have hl2:=aT hl3
 have hl1:=aT hl2
 simp only[go_sem,bc,ak,bb]
 refine dk (.inr rfl) (hW.push _) hl1 ?_
 rw[hF.p0]
 simp only[go_sem,bc,ak,bb]
 refine dk (.inl rfl) ((hW.next _).push _) hl2 ?_
 rw[hF.p1]
 simp only[go_sem,bc,ak,bb]
 refine dk (.inr rfl) ((hW.next _).push _) hl3 ?_
 rw[hF.p1]
 simp only[go_sem,bc,ak,bb]
 refine dk (.inl rfl) ((hW.next _).push _) hl4 ?_
 rw[hF.p1]
 simp only[go_sem,bc,ak,bb]
 refine dk (.inr rfl) ((hW.next _).push _) hl5 ?_
 rw[hF.p1]
 simp only[go_sem,bc,ak,bb]
 refine dk (.inl rfl) ((hW.next _).push _) hl6 ?_
 rw[hF.p1]
 try simp only[go_sem,bc,ak,bb]
 exact Z16
def Gm:EEe 62 I7:=lT Eu (fun _ x=>dD x) (fun _=>⟨_,rfl,rfl,rfl⟩) fun wf sz c ok g ew es ec eo eg hone hlt' hag id most r q s l H hW ha hl=>by
 refine ACalls.fW aD (tCq dr (tCq Jg tNq)) Tryz.func62 [] Xh (T:=aC [(2,[[],[],[],[],[],[],[],[],[4,7],[],[],[4,7]])]) (h:=fun hcl hlt=>?_)
 exact Y0
def kF:PCt
 |[],_,K=>K (.agg (cm 8 220 221))
 |_,_,_=>False
def ID:EPp 63 kF:=by
 refine Ype fun _ H K h=>?_
 unfold kF at h
 split at h<;>try exact h.elim
 refine⟨_,h,?_⟩
 refine Yfv aD tNq Tryz.func63 [.cell 0 160] fun hcl hlt=>?_
 exact Y48
end Go.AL
