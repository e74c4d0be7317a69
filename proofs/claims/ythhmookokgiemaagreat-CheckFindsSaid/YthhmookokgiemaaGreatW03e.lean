/- Lemmas of the proof; no condition. -/
import Derived.Test.YthhmookokgiemaaGreatW03c
set_option linter.all false
set_option maxRecDepth 10000
set_option maxHeartbeats 32000000
open List renaming length_cons → yaz, length_nil → yba, take_of_length_le → ybc, drop_append → ybd, take_append → ybe, drop_eq_nil_of_le → ybf, length_map → ybb, take_zero → yar
open Go Go.AL Go.Proofs
namespace Go.AL
theorem BU:ti Tryz.prog 259=some ⟨.struct [(0,3,false),(1,256,false),(2,257,false)],3,24,.agg [.int .i64 0,.nilf,.nilf]⟩:=by kernel_rfl
theorem Gn:ti Tryz.prog 256=some ⟨.func,1,8,.nilf⟩:=by kernel_rfl
theorem Eb:ti Tryz.prog 257=some ⟨.func,1,8,.nilf⟩:=by kernel_rfl
theorem BN:ti Tryz.prog 293=some ⟨.struct [(0,3,false),(1,290,false),(2,291,false)],3,24,.agg [.int .i64 0,.nilf,.nilf]⟩:=by kernel_rfl
theorem FQ:ti Tryz.prog 290=some ⟨.func,1,8,.nilf⟩:=by kernel_rfl
theorem Ee:ti Tryz.prog 291=some ⟨.func,1,8,.nilf⟩:=by kernel_rfl
theorem CT:ti Tryz.prog 338=some ⟨.struct [(0,3,false),(1,335,false),(2,336,false)],3,24,.agg [.int .i64 0,.nilf,.nilf]⟩:=by kernel_rfl
theorem EK:ti Tryz.prog 335=some ⟨.func,1,8,.nilf⟩:=by kernel_rfl
theorem Gx:ti Tryz.prog 336=some ⟨.func,1,8,.nilf⟩:=by kernel_rfl
theorem Bw:ti Tryz.prog 141=some ⟨.struct [(0,3,false),(1,138,false),(2,139,false)],3,24,.agg [.int .i64 0,.nilf,.nilf]⟩:=by kernel_rfl
theorem Fp:ti Tryz.prog 138=some ⟨.func,1,8,.nilf⟩:=by kernel_rfl
theorem GS:ti Tryz.prog 139=some ⟨.func,1,8,.nilf⟩:=by kernel_rfl
theorem Ck:ti Tryz.prog 266=some ⟨.struct [(0,3,false),(1,263,false),(2,264,false)],3,24,.agg [.int .i64 0,.nilf,.nilf]⟩:=by kernel_rfl
theorem GX:ti Tryz.prog 263=some ⟨.func,1,8,.nilf⟩:=by kernel_rfl
theorem C5:ti Tryz.prog 264=some ⟨.func,1,8,.nilf⟩:=by kernel_rfl
attribute [go_sem] BU Gn Eb BN FQ Ee CT EK Gx Bw Fp GS Ck GX C5
theorem dX {n:Nat} {f:Fn}:AV.lt n (.func f [] []):=by rw [AV.lt];exact ⟨fun j hj=>absurd hj (by simp),fun j hj=>absurd hj (by simp)⟩
def bp (most:Int) (f r:Nat):List AV:=[.int .i64 most,.func (.func f) [] [],.func (.func r) [] []]
theorem eu {n:Nat} {most:Int} {f r:Nat}:ltL n (bp most f r):=by simp [bp,znu,znv,znf,dX]
theorem fj {α:Type} {g:α→Enc} (h1:∀ x,1≤(g x).b.length) {l:List α} {s:Enc} {m:Int} (hl:(s.add (b5 g m l)).b.length≤cz):l.length≤100000000000000:=by
 have h2:=Af h1 l
 unfold b5 at hl
 rw [bW,bW,bo] at hl
 omega
theorem ex {α:Type} {g:α→Enc} {l:List α} {s:Enc} {k:Nat} {x:α} (hk:k<l.length) (hx:x=l[k]) (hl:(s.add (bZ g l)).b.length≤cz) :
 (s.add (bZ g (l.take k))).add (g x)=s.add (bZ g (l.take (k+1)))∧((s.add (bZ g (l.take k))).add (g x)).b.length≤cz:=by
 have et:l.take (k+1)=l.take k++[x]:=by rw [hx,List.take_succ_eq_append_getElem hk]
 have es:(s.add (bZ g (l.take k))).add (g x)=s.add (bZ g (l.take (k+1))):=by rw [aP,← Cd,et]
 refine ⟨es,?_⟩
 have h1:=Cb g l (k+1)
 rw [es]
 rw [bW] at hl ⊢
 omega
theorem bM {H:AHeap} {id q:Nat} {X:List AV} {Y:AObj} (hn:id≠q) (hid:id<H.nx):aJ ((H.set id (.cells X)).set q Y) id=some X:=by
 unfold aJ;rw [AHeap.get_set_ne _ _ hn,AHeap.get_set_same _ _ hid]
theorem cB {H:AHeap} {id q:Nat} {X o:AObj} (hn:id≠q) (h:H.get q=some o):(H.set id X).get q=some o:=by rw [AHeap.get_set_ne _ _ (fun e=>hn e.symm)];exact h
theorem cC {H:AHeap} {id q:Nat} {X Y Z:AObj}:((H.set id X).set q Y).set id Z=(H.set q Y).set id Z:=by
 unfold AHeap.set;congr 1;funext j;dsimp only;by_cases h1:j=id<;>simp [h1]
theorem fm {H:AHeap} {id q n:Nat} {b:List UInt8} {sl sf sa:Bool} {most:Int}:swH H id q ((⟨b,sl,sf,sa⟩:Enc).add (ea n most))=(H.set q (.buf 1 (b.length+(jc (n:Int) 2).length))).set id (.cells (swC q (b++jc (n:Int) 2) (sl||decide ((n:Int) > most)) sf sa)):=by
 unfold swH Enc.add ea swC
 simp only [Bool.or_false,lAq]
theorem SOn.push2 {H:AHeap} {id q:Nat} {s:Enc} (h:SOn H id q s) (x y:AObj):SOn ((H.push x).push y) id q s:=(h.push x).push y
theorem aF {H:AHeap} {id q:Nat} {s:Enc}:(swH H id q s).nx=H.nx:=ax
theorem JL {n v:Nat}:(vv v).lt n:=by simp [vv,znr,znu,znv,znf]
theorem yG {n:Nat} (x:SField):(aI x).lt n:=by simp [aI,znr,znu,znv,znf,znh]
theorem sk {n:Nat} (x:SCase):(bH x).lt n:=by simp [bH,vc,znr,znu,znv,znf]
theorem qf {n:Nat} (x:SParam):(bb x).lt n:=by simp [bb,znr,znu,znv,znf,znh]
theorem sJ {n:Nat} (x:SPrim):(bv x).lt n:=by simp [bv,vc,znr,znu,znv,znf]
theorem xt {n:Nat} (x:SKey):(br x).lt n:=by simp [br,znr,znu,znv,znf,znh]
theorem yQ {n:Nat} (x:SStage):(bB x).lt n:=by simp [bB,znr,znu,znv,znf]
theorem Ej {n:Nat} (x:SRef):(bL x).lt n:=by simp [bL,znr,znu,znv,znf]
theorem wy {n:Nat} (x:SHeader):(az x).lt n:=by simp [az,inL,znr,znu,znv,znf,znh,aL fun _=>of_eq_true znf]
theorem yb {n:Nat} (x:SState):(aH x).lt n:=by simp [aH,znr,znu,znv,znf,aL sk]
theorem xD {n:Nat} (x:SAction):(ap x).lt n:=by simp [ap,znr,znu,znv,znf,znh,aL qf,aL sJ]
theorem qm {n:Nat} (x:SGrant):(aR x).lt n:=by simp [aR,boL,znr,znu,znv,znf,zng,aL fun _=>of_eq_true zng]
theorem yl {n:Nat} (x:STable):(aq x).lt n:=by simp [aq,inL,znr,znu,znv,znf,znh,aL fun _=>of_eq_true znf,aL xt,aL fun _=>JL]
theorem BD {n:Nat} (x:SRole):(aN x).lt n:=by simp [aN,inL,znr,znu,znv,znf,znh,zng,aL fun _=>of_eq_true znf,aL qm]
def zQ:=eW (.int .i64) nv kN
def w7:=gm 310 1 (.int .i64) nv kN
theorem Eh:EntOk Tryz.prog 310 (Ent.effect zQ):=by
 unfold zQ
 refine EntOk.effect fun args H K h=>?_
 unfold eW at h
 split at h
 rotate_left
 ·exact h.elim
 rename_i id x
 obtain ⟨q,s,a,⟨hW,rfl,ha,hl⟩,hK⟩:=h
 refine ⟨_,_,hK,?_⟩
 clear hK
 have hF:=hW.facts
 have hcl0:=hW.closed (t:=s.add (kN a))
 have hid:=glq hW.o
 have hq:=glq hW.bu
 refine ACalls.fW ak (tCq fJ tNq) Tryz.func310 [] (by rw [ax];omega) (T:=ag []) (h:=fun hcl hlt=>?_)
 clear hlt
 have hcl1:=hcl0 hcl
 unfold kN at hl hcl1 ⊢
 have hl1:=hl
 simp only [go_sem,ax,aF]
 refine ep (.inr rfl) hW hl1 ?_
 try simp only [go_sem,ax,aF]
 exact Z15
theorem oB:EntOk Tryz.prog 214 (Ent.effect w7):=by
 unfold w7
 refine EntOk.effect fun args H K h=>?_
 unfold gm at h
 split at h
 rotate_left
 ·exact h.elim
 rename_i id most f' r sz' xs
 obtain ⟨q,s,l,⟨hW,rfl,rfl,rfl,ha,hl⟩,hK⟩:=h
 refine ⟨_,_,hK,?_⟩
 clear hK
 have hF:=hW.facts
 have hcl0:=fun t=>hW.closed (t:=t)
 have hid:=glq hW.o
 have hq:=glq hW.bu
 have hll:=fj EM hl
 obtain ⟨b,sl,sf,sa⟩:=s
 have hne:=cm hid
 have hneq:=cm hq
 have n1:(id=q)=False:=eq_false hW.ne
 have n2:(q=id)=False:=eq_false fun e=>hW.ne e.symm
 have hcs:=au hW.o
 have hb0:=hW.bu
 have hi0:=hW.o
 have hnn:=hW.ne
 have hlb:b.length≤cz:=bc hl
 rw [bo] at hlb
 dsimp only at hcs hb0 hi0 hlb
 have lw2:=cS (l.length:Int) 2
 refine ACalls.fW ak (tCq bP (tCq Eh tNq)) Tryz.func214 [] (by rw [ax];omega) (T:=ag [(2,[[],[],[],[],[],[],[],[],[4,7],[],[],[4,7]])]) (h:=fun hcl hlt=>?_)
 clear hlt
 have hcl1:=fun t=>hcl0 t hcl
 have hcm:=fun cs=>@bw H id cs hid
 have hA:=fun X Y=>@bM H id q X Y hnn hid
 have hB:=fun X=>cB (X:=X) hnn hb0
 have eh:=fun X Y Z=>@cC H id q X Y Z
 have hL2:sl=true→(sl||decide ((l.length:Int) > most))=true:=fun h=>by rw [h,Bool.true_or]
 have hL3:sl=false→decide ((l.length:Int) > most)=(sl||decide ((l.length:Int) > most)):=fun h=>by rw [h,Bool.false_or]
 have hst:=fm (H:=H) (id:=id) (q:=q) (b:=b) (sl:=sl) (sf:=sf) (sa:=sa) (n:=l.length) (most:=most)
 have hS1:=hW.next ((⟨b,sl,sf,sa⟩:Enc).add (ea l.length most))
 have htot:(((⟨b,sl,sf,sa⟩:Enc).add (ea l.length most)).add (bZ kN l))=(⟨b,sl,sf,sa⟩:Enc).add (b5 kN most l):=by rw [aP];rfl
 rw [← htot] at hl ⊢
 generalize ((⟨b,sl,sf,sa⟩:Enc).add (ea l.length most))=s1 at *
 generalize (sl||decide ((l.length:Int) > most))=L at *
 have hlv:∀ n,(AV.slice .any 1 (l.map (.int .i64))).lt n:=fun n=>aL (fun x=>of_eq_true znf)
 have hlc:=fun n=>@eu n most 310 r
 cases sl
 case' true =>
  rw [hL2 rfl] at hst
  simp only [go_sem,byq,hne,hneq,n1,n2,hcs,hcm,hA,hB,eh,hi0,hb0,aY,ybb]
 case' false =>
  simp only [go_sem,byq,hne,hneq,n1,n2,hcs,hcm,hA,hB,eh,hi0,hb0,aY,ybb,hL3 rfl]
 all_goals
  (repeat with_reducible refine And.intro (by first|assumption|decide|omega|exact ⟨by omega,by omega⟩) ?_)
  refine ay (A:=Nat) (fun k=>[(0,.ptr id 0),(4,.ptr H.nx 0),(33,.slice .any 1 (l.map (.int .i64))),(34,.int .i64 (l.length:Int)),(35,.int .i64 (k:Int))])
   (fun k=>(swH H id q (s1.add (bZ kN (l.take k)))).push (.cells (bp most 310 r))) (fun k=>k≤l.length) (fun k=>l.length - k) 0 (by omega) ?_ fun k hk=>?_
  ·rw [yar,bZ,dY,hst]
   refine ⟨by simp only [zkq,zkv,zle,zlf,ax];omega,by repeat first|exact .refl _|refine .push ?_ _,?_,?_,?_⟩
   ·rw [← hst];exact ae (hcl1 _) (hlc _)
   ·simp [ltF,zle,zlf,znn,znf,hlv]
    omega
   ·simp [aS,wk2,wk1,wkM,Fr.get]
  simp only [go_sem]
  refine ah (fun hc=>?_) (fun hc=>?_)
  ·have hk':k<l.length:=by simp at hc;omega
   obtain ⟨x,hx⟩:∃ x,x=l[k]:=⟨_,rfl⟩
   have hg:=dx (f:=.int .i64) (l:=l) (k:=k) (x:=x) (by rw [gQq hk',hx])
   have e5:=Yk5 k
   have hxo:=ha x (by rw [hx];exact gMq hk')
   obtain ⟨es,hlk⟩:=ex (g:=kN) hk' hx hl
   have hSk:=hW.next (s1.add (bZ kN (l.take k)))
   simp only [go_sem,iNq,ybb,hg,ax,bp,bo]
   refine ⟨by omega,?_⟩
   refine nP (c:=.int .i64) hxo (hSk.push _) hlk ?_
   rw [hF.p1,es]
   simp only [go_sem,e5]
   refine ⟨k+1,by omega,by omega,by simp only [zkq,zkv,zle,ax];omega,by repeat first|exact .refl _|refine .push ?_ _,ae (hcl1 _) (hlc _),?_,?_⟩
   ·simp [ltF,zle,ax,znn,znf,hlv]
    omega
   ·simp [aS,wk2,wk1,wkM,Fr.get]
  ·have hk':k=l.length:=by simp at hc;omega
   subst hk'
   rw [List.take_length]
   simp only [go_sem]
   refine ⟨?_,by repeat first|exact .refl _|refine .push ?_ _,hcl1 _,?_⟩
   ·simp [wk,wk2,wk1,af]
   ·simp [zns,znv]
def dD:List AV→AHeap→(AV→Prop)→Prop
 |[.int .i64 most],_,K=>K (.agg (bp most 310 311))
 |_,_,_=>False
theorem qF:EntOk Tryz.prog 215 (Ent.pure dD):=by
 refine Ype fun _ H K h=>?_
 unfold dD at h
 split at h
 rotate_left
 ·exact h.elim
 refine ⟨_,h,?_⟩
 refine ACalls.fW ak tNq Tryz.func215 [.cell 2 259] (nrq _) (T:=ag []) (h:=fun hcl hlt=>?_)
 clear hlt
 simp only [go_sem,bp]
 exact Z16
def wE:=gm 315 2 (vv) km jw
theorem CF:EntOk Tryz.prog 234 (Ent.effect wE):=by
 unfold wE
 refine EntOk.effect fun args H K h=>?_
 unfold gm at h
 split at h
 rotate_left
 ·exact h.elim
 rename_i id most f' r sz' xs
 obtain ⟨q,s,l,⟨hW,rfl,rfl,rfl,ha,hl⟩,hK⟩:=h
 refine ⟨_,_,hK,?_⟩
 clear hK
 have hF:=hW.facts
 have hcl0:=fun t=>hW.closed (t:=t)
 have hid:=glq hW.o
 have hq:=glq hW.bu
 have hll:=fj Em hl
 obtain ⟨b,sl,sf,sa⟩:=s
 have hne:=cm hid
 have hneq:=cm hq
 have n1:(id=q)=False:=eq_false hW.ne
 have n2:(q=id)=False:=eq_false fun e=>hW.ne e.symm
 have hcs:=au hW.o
 have hb0:=hW.bu
 have hi0:=hW.o
 have hnn:=hW.ne
 have hlb:b.length≤cz:=bc hl
 rw [bo] at hlb
 dsimp only at hcs hb0 hi0 hlb
 have lw2:=cS (l.length:Int) 2
 refine ACalls.fW ak (tCq bP (tCq uv tNq)) Tryz.func234 [] (by rw [ax];omega) (T:=ag [(2,[[],[],[],[],[],[],[],[],[4,7],[],[],[4,7]])]) (h:=fun hcl hlt=>?_)
 clear hlt
 have hcl1:=fun t=>hcl0 t hcl
 have hcm:=fun cs=>@bw H id cs hid
 have hA:=fun X Y=>@bM H id q X Y hnn hid
 have hB:=fun X=>cB (X:=X) hnn hb0
 have eh:=fun X Y Z=>@cC H id q X Y Z
 have hL2:sl=true→(sl||decide ((l.length:Int) > most))=true:=fun h=>by rw [h,Bool.true_or]
 have hL3:sl=false→decide ((l.length:Int) > most)=(sl||decide ((l.length:Int) > most)):=fun h=>by rw [h,Bool.false_or]
 have hst:=fm (H:=H) (id:=id) (q:=q) (b:=b) (sl:=sl) (sf:=sf) (sa:=sa) (n:=l.length) (most:=most)
 have hS1:=hW.next ((⟨b,sl,sf,sa⟩:Enc).add (ea l.length most))
 have htot:(((⟨b,sl,sf,sa⟩:Enc).add (ea l.length most)).add (bZ jw l))=(⟨b,sl,sf,sa⟩:Enc).add (b5 jw most l):=by rw [aP];rfl
 rw [← htot] at hl ⊢
 generalize ((⟨b,sl,sf,sa⟩:Enc).add (ea l.length most))=s1 at *
 generalize (sl||decide ((l.length:Int) > most))=L at *
 have hlv:∀ n,(AV.slice .any 2 (l.map (vv))).lt n:=fun n=>aL (fun x=>JL)
 have hlc:=fun n=>@eu n most 315 r
 cases sl
 case' true =>
  rw [hL2 rfl] at hst
  simp only [go_sem,byq,hne,hneq,n1,n2,hcs,hcm,hA,hB,eh,hi0,hb0,aY,ybb]
 case' false =>
  simp only [go_sem,byq,hne,hneq,n1,n2,hcs,hcm,hA,hB,eh,hi0,hb0,aY,ybb,hL3 rfl]
 all_goals
  (repeat with_reducible refine And.intro (by first|assumption|decide|omega|exact ⟨by omega,by omega⟩) ?_)
  refine ay (A:=Nat) (fun k=>[(0,.ptr id 0),(4,.ptr H.nx 0),(33,.slice .any 2 (l.map (vv))),(34,.int .i64 (l.length:Int)),(35,.int .i64 (k:Int))])
   (fun k=>(swH H id q (s1.add (bZ jw (l.take k)))).push (.cells (bp most 315 r))) (fun k=>k≤l.length) (fun k=>l.length - k) 0 (by omega) ?_ fun k hk=>?_
  ·rw [yar,bZ,dY,hst]
   refine ⟨by simp only [zkq,zkv,zle,zlf,ax];omega,by repeat first|exact .refl _|refine .push ?_ _,?_,?_,?_⟩
   ·rw [← hst];exact ae (hcl1 _) (hlc _)
   ·simp [ltF,zle,zlf,znn,znf,hlv]
    omega
   ·simp [aS,wk2,wk1,wkM,Fr.get]
  simp only [go_sem]
  refine ah (fun hc=>?_) (fun hc=>?_)
  ·have hk':k<l.length:=by simp at hc;omega
   obtain ⟨x,hx⟩:∃ x,x=l[k]:=⟨_,rfl⟩
   have hg:=dx (f:=vv) (l:=l) (k:=k) (x:=x) (by rw [gQq hk',hx])
   have e5:=Yk5 k
   have hxo:=ha x (by rw [hx];exact gMq hk')
   obtain ⟨es,hlk⟩:=ex (g:=jw) hk' hx hl
   have hSk:=hW.next (s1.add (bZ jw (l.take k)))
   simp only [go_sem,iNq,ybb,hg,ax,vv,bp,bo]
   refine ⟨by omega,?_⟩
   refine Ai hxo (hSk.push2 _ _) hlk ?_
   rw [hF.p2,es]
   simp only [go_sem,e5]
   refine ⟨k+1,by omega,by omega,by simp only [zkq,zkv,zle,ax];omega,by repeat first|exact .refl _|refine .push ?_ _,ae (hcl1 _) (hlc _),?_,?_⟩
   ·simp [ltF,zle,ax,znn,znf,hlv]
    omega
   ·simp [aS,wk2,wk1,wkM,Fr.get]
  ·have hk':k=l.length:=by simp at hc;omega
   subst hk'
   rw [List.take_length]
   simp only [go_sem]
   refine ⟨?_,by repeat first|exact .refl _|refine .push ?_ _,hcl1 _,?_⟩
   ·simp [wk,wk2,wk1,af]
   ·simp [zns,znv]
def im:List AV→AHeap→(AV→Prop)→Prop
 |[],_,K=>K (.agg (bp 4 315 317))
 |_,_,_=>False
theorem GV:EntOk Tryz.prog 235 (Ent.pure im):=by
 refine Ype fun _ H K h=>?_
 unfold im at h
 split at h
 rotate_left
 ·exact h.elim
 refine ⟨_,h,?_⟩
 refine ACalls.fW ak tNq Tryz.func235 [.cell 0 293] (nrq _) (T:=ag []) (h:=fun hcl hlt=>?_)
 clear hlt
 simp only [go_sem,bp]
 exact Z16
def xu:=gm 244 1 (.bool) nv je
theorem Bg:EntOk Tryz.prog 325 (Ent.effect xu):=by
 unfold xu
 refine EntOk.effect fun args H K h=>?_
 unfold gm at h
 split at h
 rotate_left
 ·exact h.elim
 rename_i id most f' r sz' xs
 obtain ⟨q,s,l,⟨hW,rfl,rfl,rfl,ha,hl⟩,hK⟩:=h
 refine ⟨_,_,hK,?_⟩
 clear hK
 have hF:=hW.facts
 have hcl0:=fun t=>hW.closed (t:=t)
 have hid:=glq hW.o
 have hq:=glq hW.bu
 have hll:=fj E6 hl
 obtain ⟨b,sl,sf,sa⟩:=s
 have hne:=cm hid
 have hneq:=cm hq
 have n1:(id=q)=False:=eq_false hW.ne
 have n2:(q=id)=False:=eq_false fun e=>hW.ne e.symm
 have hcs:=au hW.o
 have hb0:=hW.bu
 have hi0:=hW.o
 have hnn:=hW.ne
 have hlb:b.length≤cz:=bc hl
 rw [bo] at hlb
 dsimp only at hcs hb0 hi0 hlb
 have lw2:=cS (l.length:Int) 2
 refine ACalls.fW ak (tCq bP (tCq uG tNq)) Tryz.func325 [] (by rw [ax];omega) (T:=ag [(2,[[],[],[],[],[],[],[],[],[4,7],[],[],[4,7]])]) (h:=fun hcl hlt=>?_)
 clear hlt
 have hcl1:=fun t=>hcl0 t hcl
 have hcm:=fun cs=>@bw H id cs hid
 have hA:=fun X Y=>@bM H id q X Y hnn hid
 have hB:=fun X=>cB (X:=X) hnn hb0
 have eh:=fun X Y Z=>@cC H id q X Y Z
 have hL2:sl=true→(sl||decide ((l.length:Int) > most))=true:=fun h=>by rw [h,Bool.true_or]
 have hL3:sl=false→decide ((l.length:Int) > most)=(sl||decide ((l.length:Int) > most)):=fun h=>by rw [h,Bool.false_or]
 have hst:=fm (H:=H) (id:=id) (q:=q) (b:=b) (sl:=sl) (sf:=sf) (sa:=sa) (n:=l.length) (most:=most)
 have hS1:=hW.next ((⟨b,sl,sf,sa⟩:Enc).add (ea l.length most))
 have htot:(((⟨b,sl,sf,sa⟩:Enc).add (ea l.length most)).add (bZ je l))=(⟨b,sl,sf,sa⟩:Enc).add (b5 je most l):=by rw [aP];rfl
 rw [← htot] at hl ⊢
 generalize ((⟨b,sl,sf,sa⟩:Enc).add (ea l.length most))=s1 at *
 generalize (sl||decide ((l.length:Int) > most))=L at *
 have hlv:∀ n,(AV.slice .any 1 (l.map (.bool))).lt n:=fun n=>aL (fun x=>of_eq_true zng)
 have hlc:=fun n=>@eu n most 244 r
 cases sl
 case' true =>
  rw [hL2 rfl] at hst
  simp only [go_sem,byq,hne,hneq,n1,n2,hcs,hcm,hA,hB,eh,hi0,hb0,aY,ybb]
 case' false =>
  simp only [go_sem,byq,hne,hneq,n1,n2,hcs,hcm,hA,hB,eh,hi0,hb0,aY,ybb,hL3 rfl]
 all_goals
  (repeat with_reducible refine And.intro (by first|assumption|decide|omega|exact ⟨by omega,by omega⟩) ?_)
  refine ay (A:=Nat) (fun k=>[(0,.ptr id 0),(4,.ptr H.nx 0),(33,.slice .any 1 (l.map (.bool))),(34,.int .i64 (l.length:Int)),(35,.int .i64 (k:Int))])
   (fun k=>(swH H id q (s1.add (bZ je (l.take k)))).push (.cells (bp most 244 r))) (fun k=>k≤l.length) (fun k=>l.length - k) 0 (by omega) ?_ fun k hk=>?_
  ·rw [yar,bZ,dY,hst]
   refine ⟨by simp only [zkq,zkv,zle,zlf,ax];omega,by repeat first|exact .refl _|refine .push ?_ _,?_,?_,?_⟩
   ·rw [← hst];exact ae (hcl1 _) (hlc _)
   ·simp [ltF,zle,zlf,znn,znf,hlv]
    omega
   ·simp [aS,wk2,wk1,wkM,Fr.get]
  simp only [go_sem]
  refine ah (fun hc=>?_) (fun hc=>?_)
  ·have hk':k<l.length:=by simp at hc;omega
   obtain ⟨x,hx⟩:∃ x,x=l[k]:=⟨_,rfl⟩
   have hg:=dx (f:=.bool) (l:=l) (k:=k) (x:=x) (by rw [gQq hk',hx])
   have e5:=Yk5 k
   have hxo:=ha x (by rw [hx];exact gMq hk')
   obtain ⟨es,hlk⟩:=ex (g:=je) hk' hx hl
   have hSk:=hW.next (s1.add (bZ je (l.take k)))
   simp only [go_sem,iNq,ybb,hg,ax,bp,bo]
   refine ⟨by omega,?_⟩
   refine z7 (hSk.push _) hlk ?_
   rw [hF.p1,es]
   simp only [go_sem,e5]
   refine ⟨k+1,by omega,by omega,by simp only [zkq,zkv,zle,ax];omega,by repeat first|exact .refl _|refine .push ?_ _,ae (hcl1 _) (hlc _),?_,?_⟩
   ·simp [ltF,zle,ax,znn,znf,hlv]
    omega
   ·simp [aS,wk2,wk1,wkM,Fr.get]
  ·have hk':k=l.length:=by simp at hc;omega
   subst hk'
   rw [List.take_length]
   simp only [go_sem]
   refine ⟨?_,by repeat first|exact .refl _|refine .push ?_ _,hcl1 _,?_⟩
   ·simp [wk,wk2,wk1,af]
   ·simp [zns,znv]
def kY:List AV→AHeap→(AV→Prop)→Prop
 |[],_,K=>K (.agg (bp 4 244 247))
 |_,_,_=>False
theorem En:EntOk Tryz.prog 326 (Ent.pure kY):=by
 refine Ype fun _ H K h=>?_
 unfold kY at h
 split at h
 rotate_left
 ·exact h.elim
 refine ⟨_,h,?_⟩
 refine ACalls.fW ak tNq Tryz.func326 [.cell 0 338] (nrq _) (T:=ag []) (h:=fun hcl hlt=>?_)
 clear hlt
 simp only [go_sem,bp]
 exact Z16
def AR:=eW (aI) ve gT
def xh:=gm 208 3 (aI) ve gT
theorem DZ:EntOk Tryz.prog 208 (Ent.effect AR):=by
 unfold AR
 refine EntOk.effect fun args H K h=>?_
 unfold eW at h
 split at h
 rotate_left
 ·exact h.elim
 rename_i id x
 obtain ⟨q,s,a,⟨hW,rfl,ha,hl⟩,hK⟩:=h
 refine ⟨_,_,hK,?_⟩
 clear hK
 have hF:=hW.facts
 have hcl0:=hW.closed (t:=s.add (gT a))
 have hid:=glq hW.o
 have hq:=glq hW.bu
 refine ACalls.fW ak (tCq fJ (tCq kL tNq)) Tryz.func208 [] (by rw [ax];omega) (T:=ag []) (h:=fun hcl hlt=>?_)
 clear hlt
 have hcl1:=hcl0 hcl
 unfold gT at hl hcl1 ⊢
 rw [← aP,← aP] at hl hcl1 ⊢
 have hl3:=hl
 have hl2:=bc hl3
 have hl1:=bc hl2
 simp only [go_sem,aI,ax,aF]
 refine ep (.inr rfl) (hW.push _) hl1 ?_
 rw [hF.p0]
 simp only [go_sem,aI,ax,aF]
 refine nK (ha) ((hW.next _).push _) hl2 ?_
 rw [hF.p1]
 simp only [go_sem,aI,ax,aF]
 refine ep (.inl rfl) ((hW.next _).push _) hl3 ?_
 rw [hF.p1]
 try simp only [go_sem,aI,ax,aF]
 exact Z15
theorem BB:EntOk Tryz.prog 81 (Ent.effect xh):=by
 unfold xh
 refine EntOk.effect fun args H K h=>?_
 unfold gm at h
 split at h
 rotate_left
 ·exact h.elim
 rename_i id most f' r sz' xs
 obtain ⟨q,s,l,⟨hW,rfl,rfl,rfl,ha,hl⟩,hK⟩:=h
 refine ⟨_,_,hK,?_⟩
 clear hK
 have hF:=hW.facts
 have hcl0:=fun t=>hW.closed (t:=t)
 have hid:=glq hW.o
 have hq:=glq hW.bu
 have hll:=fj BQ hl
 obtain ⟨b,sl,sf,sa⟩:=s
 have hne:=cm hid
 have hneq:=cm hq
 have n1:(id=q)=False:=eq_false hW.ne
 have n2:(q=id)=False:=eq_false fun e=>hW.ne e.symm
 have hcs:=au hW.o
 have hb0:=hW.bu
 have hi0:=hW.o
 have hnn:=hW.ne
 have hlb:b.length≤cz:=bc hl
 rw [bo] at hlb
 dsimp only at hcs hb0 hi0 hlb
 have lw2:=cS (l.length:Int) 2
 refine ACalls.fW ak (tCq bP (tCq DZ tNq)) Tryz.func81 [] (by rw [ax];omega) (T:=ag [(2,[[],[],[],[],[],[],[],[],[4,7],[],[],[4,7]])]) (h:=fun hcl hlt=>?_)
 clear hlt
 have hcl1:=fun t=>hcl0 t hcl
 have hcm:=fun cs=>@bw H id cs hid
 have hA:=fun X Y=>@bM H id q X Y hnn hid
 have hB:=fun X=>cB (X:=X) hnn hb0
 have eh:=fun X Y Z=>@cC H id q X Y Z
 have hL2:sl=true→(sl||decide ((l.length:Int) > most))=true:=fun h=>by rw [h,Bool.true_or]
 have hL3:sl=false→decide ((l.length:Int) > most)=(sl||decide ((l.length:Int) > most)):=fun h=>by rw [h,Bool.false_or]
 have hst:=fm (H:=H) (id:=id) (q:=q) (b:=b) (sl:=sl) (sf:=sf) (sa:=sa) (n:=l.length) (most:=most)
 have hS1:=hW.next ((⟨b,sl,sf,sa⟩:Enc).add (ea l.length most))
 have htot:(((⟨b,sl,sf,sa⟩:Enc).add (ea l.length most)).add (bZ gT l))=(⟨b,sl,sf,sa⟩:Enc).add (b5 gT most l):=by rw [aP];rfl
 rw [← htot] at hl ⊢
 generalize ((⟨b,sl,sf,sa⟩:Enc).add (ea l.length most))=s1 at *
 generalize (sl||decide ((l.length:Int) > most))=L at *
 have hlv:∀ n,(AV.slice .any 3 (l.map (aI))).lt n:=fun n=>aL (fun x=>yG x)
 have hlc:=fun n=>@eu n most 208 r
 cases sl
 case' true =>
  rw [hL2 rfl] at hst
  simp only [go_sem,byq,hne,hneq,n1,n2,hcs,hcm,hA,hB,eh,hi0,hb0,aY,ybb]
 case' false =>
  simp only [go_sem,byq,hne,hneq,n1,n2,hcs,hcm,hA,hB,eh,hi0,hb0,aY,ybb,hL3 rfl]
 all_goals
  (repeat with_reducible refine And.intro (by first|assumption|decide|omega|exact ⟨by omega,by omega⟩) ?_)
  refine ay (A:=Nat) (fun k=>[(0,.ptr id 0),(4,.ptr H.nx 0),(33,.slice .any 3 (l.map (aI))),(34,.int .i64 (l.length:Int)),(35,.int .i64 (k:Int))])
   (fun k=>(swH H id q (s1.add (bZ gT (l.take k)))).push (.cells (bp most 208 r))) (fun k=>k≤l.length) (fun k=>l.length - k) 0 (by omega) ?_ fun k hk=>?_
  ·rw [yar,bZ,dY,hst]
   refine ⟨by simp only [zkq,zkv,zle,zlf,ax];omega,by repeat first|exact .refl _|refine .push ?_ _,?_,?_,?_⟩
   ·rw [← hst];exact ae (hcl1 _) (hlc _)
   ·simp [ltF,zle,zlf,znn,znf,hlv]
    omega
   ·simp [aS,wk2,wk1,wkM,Fr.get]
  simp only [go_sem]
  refine ah (fun hc=>?_) (fun hc=>?_)
  ·have hk':k<l.length:=by simp at hc;omega
   obtain ⟨x,hx⟩:∃ x,x=l[k]:=⟨_,rfl⟩
   have hg:=dx (f:=aI) (l:=l) (k:=k) (x:=x) (by rw [gQq hk',hx])
   have e5:=Yk5 k
   have hxo:=ha x (by rw [hx];exact gMq hk')
   obtain ⟨es,hlk⟩:=ex (g:=gT) hk' hx hl
   have hSk:=hW.next (s1.add (bZ gT (l.take k)))
   simp only [go_sem,iNq,ybb,hg,ax,aI,bp,bo]
   refine ⟨by omega,?_⟩
   refine nP (c:=aI) hxo (hSk.push2 _ _) hlk ?_
   rw [hF.p2,es]
   simp only [go_sem,e5]
   refine ⟨k+1,by omega,by omega,by simp only [zkq,zkv,zle,ax];omega,by repeat first|exact .refl _|refine .push ?_ _,ae (hcl1 _) (hlc _),?_,?_⟩
   ·simp [ltF,zle,ax,znn,znf,hlv]
    omega
   ·simp [aS,wk2,wk1,wkM,Fr.get]
  ·have hk':k=l.length:=by simp at hc;omega
   subst hk'
   rw [List.take_length]
   simp only [go_sem]
   refine ⟨?_,by repeat first|exact .refl _|refine .push ?_ _,hcl1 _,?_⟩
   ·simp [wk,wk2,wk1,af]
   ·simp [zns,znv]
def gI:List AV→AHeap→(AV→Prop)→Prop
 |[],_,K=>K (.agg (bp 32 208 210))
 |_,_,_=>False
theorem GL:EntOk Tryz.prog 82 (Ent.pure gI):=by
 refine Ype fun _ H K h=>?_
 unfold gI at h
 split at h
 rotate_left
 ·exact h.elim
 refine ⟨_,h,?_⟩
 refine ACalls.fW ak tNq Tryz.func82 [.cell 0 141] (nrq _) (T:=ag []) (h:=fun hcl hlt=>?_)
 clear hlt
 simp only [go_sem,bp]
 exact Z16
def zy:=eW (bH) lO jL
def xn:=gm 314 5 (bH) lO jL
theorem Hh:EntOk Tryz.prog 314 (Ent.effect zy):=by
 unfold zy
 refine EntOk.effect fun args H K h=>?_
 unfold eW at h
 split at h
 rotate_left
 ·exact h.elim
 rename_i id x
 obtain ⟨q,s,a,⟨hW,rfl,ha,hl⟩,hK⟩:=h
 refine ⟨_,_,hK,?_⟩
 clear hK
 have hF:=hW.facts
 have hcl0:=hW.closed (t:=s.add (jL a))
 have hid:=glq hW.o
 have hq:=glq hW.bu
 refine ACalls.fW ak (tCq uv (tCq fJ tNq)) Tryz.func314 [] (by rw [ax];omega) (T:=ag []) (h:=fun hcl hlt=>?_)
 clear hlt
 have hcl1:=hcl0 hcl
 unfold jL at hl hcl1 ⊢
 rw [← aP,← aP] at hl hcl1 ⊢
 have hl3:=hl
 have hl2:=bc hl3
 have hl1:=bc hl2
 simp only [go_sem,bH,vc,ax,aF]
 refine Ai (ha.1) (hW.push _) hl1 ?_
 rw [hF.p0]
 simp only [go_sem,bH,vc,ax,aF]
 refine Ai (ha.2) ((hW.next _).push _) hl2 ?_
 rw [hF.p1]
 simp only [go_sem,bH,vc,ax,aF]
 refine ep (.inr rfl) ((hW.next _).push _) hl3 ?_
 rw [hF.p1]
 try simp only [go_sem,bH,vc,ax,aF]
 exact Z15
theorem B5:EntOk Tryz.prog 219 (Ent.effect xn):=by
 unfold xn
 refine EntOk.effect fun args H K h=>?_
 unfold gm at h
 split at h
 rotate_left
 ·exact h.elim
 rename_i id most f' r sz' xs
 obtain ⟨q,s,l,⟨hW,rfl,rfl,rfl,ha,hl⟩,hK⟩:=h
 refine ⟨_,_,hK,?_⟩
 clear hK
 have hF:=hW.facts
 have hcl0:=fun t=>hW.closed (t:=t)
 have hid:=glq hW.o
 have hq:=glq hW.bu
 have hll:=fj FI hl
 obtain ⟨b,sl,sf,sa⟩:=s
 have hne:=cm hid
 have hneq:=cm hq
 have n1:(id=q)=False:=eq_false hW.ne
 have n2:(q=id)=False:=eq_false fun e=>hW.ne e.symm
 have hcs:=au hW.o
 have hb0:=hW.bu
 have hi0:=hW.o
 have hnn:=hW.ne
 have hlb:b.length≤cz:=bc hl
 rw [bo] at hlb
 dsimp only at hcs hb0 hi0 hlb
 have lw2:=cS (l.length:Int) 2
 refine ACalls.fW ak (tCq bP (tCq Hh tNq)) Tryz.func219 [] (by rw [ax];omega) (T:=ag [(2,[[],[],[],[],[],[],[],[],[4,7],[],[],[4,7]])]) (h:=fun hcl hlt=>?_)
 clear hlt
 have hcl1:=fun t=>hcl0 t hcl
 have hcm:=fun cs=>@bw H id cs hid
 have hA:=fun X Y=>@bM H id q X Y hnn hid
 have hB:=fun X=>cB (X:=X) hnn hb0
 have eh:=fun X Y Z=>@cC H id q X Y Z
 have hL2:sl=true→(sl||decide ((l.length:Int) > most))=true:=fun h=>by rw [h,Bool.true_or]
 have hL3:sl=false→decide ((l.length:Int) > most)=(sl||decide ((l.length:Int) > most)):=fun h=>by rw [h,Bool.false_or]
 have hst:=fm (H:=H) (id:=id) (q:=q) (b:=b) (sl:=sl) (sf:=sf) (sa:=sa) (n:=l.length) (most:=most)
 have hS1:=hW.next ((⟨b,sl,sf,sa⟩:Enc).add (ea l.length most))
 have htot:(((⟨b,sl,sf,sa⟩:Enc).add (ea l.length most)).add (bZ jL l))=(⟨b,sl,sf,sa⟩:Enc).add (b5 jL most l):=by rw [aP];rfl
 rw [← htot] at hl ⊢
 generalize ((⟨b,sl,sf,sa⟩:Enc).add (ea l.length most))=s1 at *
 generalize (sl||decide ((l.length:Int) > most))=L at *
 have hlv:∀ n,(AV.slice .any 5 (l.map (bH))).lt n:=fun n=>aL (fun x=>sk x)
 have hlc:=fun n=>@eu n most 314 r
 cases sl
 case' true =>
  rw [hL2 rfl] at hst
  simp only [go_sem,byq,hne,hneq,n1,n2,hcs,hcm,hA,hB,eh,hi0,hb0,aY,ybb]
 case' false =>
  simp only [go_sem,byq,hne,hneq,n1,n2,hcs,hcm,hA,hB,eh,hi0,hb0,aY,ybb,hL3 rfl]
 all_goals
  (repeat with_reducible refine And.intro (by first|assumption|decide|omega|exact ⟨by omega,by omega⟩) ?_)
  refine ay (A:=Nat) (fun k=>[(0,.ptr id 0),(4,.ptr H.nx 0),(33,.slice .any 5 (l.map (bH))),(34,.int .i64 (l.length:Int)),(35,.int .i64 (k:Int))])
   (fun k=>(swH H id q (s1.add (bZ jL (l.take k)))).push (.cells (bp most 314 r))) (fun k=>k≤l.length) (fun k=>l.length - k) 0 (by omega) ?_ fun k hk=>?_
  ·rw [yar,bZ,dY,hst]
   refine ⟨by simp only [zkq,zkv,zle,zlf,ax];omega,by repeat first|exact .refl _|refine .push ?_ _,?_,?_,?_⟩
   ·rw [← hst];exact ae (hcl1 _) (hlc _)
   ·simp [ltF,zle,zlf,znn,znf,hlv]
    omega
   ·simp [aS,wk2,wk1,wkM,Fr.get]
  simp only [go_sem]
  refine ah (fun hc=>?_) (fun hc=>?_)
  ·have hk':k<l.length:=by simp at hc;omega
   obtain ⟨x,hx⟩:∃ x,x=l[k]:=⟨_,rfl⟩
   have hg:=dx (f:=bH) (l:=l) (k:=k) (x:=x) (by rw [gQq hk',hx])
   have e5:=Yk5 k
   have hxo:=ha x (by rw [hx];exact gMq hk')
   obtain ⟨es,hlk⟩:=ex (g:=jL) hk' hx hl
   have hSk:=hW.next (s1.add (bZ jL (l.take k)))
   simp only [go_sem,iNq,ybb,hg,ax,bH,vc,bp,bo]
   refine ⟨by omega,?_⟩
   refine nP (c:=bH) hxo (hSk.push2 _ _) hlk ?_
   rw [hF.p2,es]
   simp only [go_sem,e5]
   refine ⟨k+1,by omega,by omega,by simp only [zkq,zkv,zle,ax];omega,by repeat first|exact .refl _|refine .push ?_ _,ae (hcl1 _) (hlc _),?_,?_⟩
   ·simp [ltF,zle,ax,znn,znf,hlv]
    omega
   ·simp [aS,wk2,wk1,wkM,Fr.get]
  ·have hk':k=l.length:=by simp at hc;omega
   subst hk'
   rw [List.take_length]
   simp only [go_sem]
   refine ⟨?_,by repeat first|exact .refl _|refine .push ?_ _,hcl1 _,?_⟩
   ·simp [wk,wk2,wk1,af]
   ·simp [zns,znv]
def jX:List AV→AHeap→(AV→Prop)→Prop
 |[],_,K=>K (.agg (bp 6 314 316))
 |_,_,_=>False
theorem FA:EntOk Tryz.prog 220 (Ent.pure jX):=by
 refine Ype fun _ H K h=>?_
 unfold jX at h
 split at h
 rotate_left
 ·exact h.elim
 refine ⟨_,h,?_⟩
 refine ACalls.fW ak tNq Tryz.func220 [.cell 0 266] (nrq _) (T:=ag []) (h:=fun hcl hlt=>?_)
 clear hlt
 simp only [go_sem,bp]
 exact Z16
theorem Bn:ti Tryz.prog 273=some ⟨.struct [(0,3,false),(1,270,false),(2,271,false)],3,24,.agg [.int .i64 0,.nilf,.nilf]⟩:=by kernel_rfl
theorem Ew:ti Tryz.prog 270=some ⟨.func,1,8,.nilf⟩:=by kernel_rfl
theorem ET:ti Tryz.prog 271=some ⟨.func,1,8,.nilf⟩:=by kernel_rfl
theorem Bf:ti Tryz.prog 279=some ⟨.struct [(0,3,false),(1,276,false),(2,277,false)],3,24,.agg [.int .i64 0,.nilf,.nilf]⟩:=by kernel_rfl
theorem G8:ti Tryz.prog 276=some ⟨.func,1,8,.nilf⟩:=by kernel_rfl
theorem F3:ti Tryz.prog 277=some ⟨.func,1,8,.nilf⟩:=by kernel_rfl
theorem Ch:ti Tryz.prog 287=some ⟨.struct [(0,3,false),(1,284,false),(2,285,false)],3,24,.agg [.int .i64 0,.nilf,.nilf]⟩:=by kernel_rfl
theorem G5:ti Tryz.prog 284=some ⟨.func,1,8,.nilf⟩:=by kernel_rfl
theorem EP:ti Tryz.prog 285=some ⟨.func,1,8,.nilf⟩:=by kernel_rfl
theorem A9:ti Tryz.prog 171=some ⟨.struct [(0,3,false),(1,168,false),(2,169,false)],3,24,.agg [.int .i64 0,.nilf,.nilf]⟩:=by kernel_rfl
theorem Er:ti Tryz.prog 168=some ⟨.func,1,8,.nilf⟩:=by kernel_rfl
theorem Gw:ti Tryz.prog 169=some ⟨.func,1,8,.nilf⟩:=by kernel_rfl
theorem Cr:ti Tryz.prog 183=some ⟨.struct [(0,3,false),(1,180,false),(2,181,false)],3,24,.agg [.int .i64 0,.nilf,.nilf]⟩:=by kernel_rfl
theorem DA:ti Tryz.prog 180=some ⟨.func,1,8,.nilf⟩:=by kernel_rfl
theorem EZ:ti Tryz.prog 181=some ⟨.func,1,8,.nilf⟩:=by kernel_rfl
attribute [go_sem] Bn Ew ET Bf G8 F3 Ch G5 EP A9 Er Gw Cr DA EZ
def Az:=eW (bb) uE ik
def vO:=gm 318 2 (bb) uE ik
theorem Eu:EntOk Tryz.prog 318 (Ent.effect Az):=by
 unfold Az
 refine EntOk.effect fun args H K h=>?_
 unfold eW at h
 split at h
 rotate_left
 ·exact h.elim
 rename_i id x
 obtain ⟨q,s,a,⟨hW,rfl,ha,hl⟩,hK⟩:=h
 refine ⟨_,_,hK,?_⟩
 clear hK
 have hF:=hW.facts
 have hcl0:=hW.closed (t:=s.add (ik a))
 have hid:=glq hW.o
 have hq:=glq hW.bu
 refine ACalls.fW ak (tCq kL (tCq fJ tNq)) Tryz.func318 [] (by rw [ax];omega) (T:=ag []) (h:=fun hcl hlt=>?_)
 clear hlt
 have hcl1:=hcl0 hcl
 unfold ik at hl hcl1 ⊢
 rw [← aP] at hl hcl1 ⊢
 have hl2:=hl
 have hl1:=bc hl2
 simp only [go_sem,bb,ax,aF]
 refine nK (ha) (hW.push _) hl1 ?_
 rw [hF.p0]
 simp only [go_sem,bb,ax,aF]
 refine ep (.inl rfl) ((hW.next _).push _) hl2 ?_
 rw [hF.p1]
 try simp only [go_sem,bb,ax,aF]
 exact Z15
theorem BS:EntOk Tryz.prog 224 (Ent.effect vO):=by
 unfold vO
 refine EntOk.effect fun args H K h=>?_
 unfold gm at h
 split at h
 rotate_left
 ·exact h.elim
 rename_i id most f' r sz' xs
 obtain ⟨q,s,l,⟨hW,rfl,rfl,rfl,ha,hl⟩,hK⟩:=h
 refine ⟨_,_,hK,?_⟩
 clear hK
 have hF:=hW.facts
 have hcl0:=fun t=>hW.closed (t:=t)
 have hid:=glq hW.o
 have hq:=glq hW.bu
 have hll:=fj CO hl
 obtain ⟨b,sl,sf,sa⟩:=s
 have hne:=cm hid
 have hneq:=cm hq
 have n1:(id=q)=False:=eq_false hW.ne
 have n2:(q=id)=False:=eq_false fun e=>hW.ne e.symm
 have hcs:=au hW.o
 have hb0:=hW.bu
 have hi0:=hW.o
 have hnn:=hW.ne
 have hlb:b.length≤cz:=bc hl
 rw [bo] at hlb
 dsimp only at hcs hb0 hi0 hlb
 have lw2:=cS (l.length:Int) 2
 refine ACalls.fW ak (tCq bP (tCq Eu tNq)) Tryz.func224 [] (by rw [ax];omega) (T:=ag [(2,[[],[],[],[],[],[],[],[],[4,7],[],[],[4,7]])]) (h:=fun hcl hlt=>?_)
 clear hlt
 have hcl1:=fun t=>hcl0 t hcl
 have hcm:=fun cs=>@bw H id cs hid
 have hA:=fun X Y=>@bM H id q X Y hnn hid
 have hB:=fun X=>cB (X:=X) hnn hb0
 have eh:=fun X Y Z=>@cC H id q X Y Z
 have hL2:sl=true→(sl||decide ((l.length:Int) > most))=true:=fun h=>by rw [h,Bool.true_or]
 have hL3:sl=false→decide ((l.length:Int) > most)=(sl||decide ((l.length:Int) > most)):=fun h=>by rw [h,Bool.false_or]
 have hst:=fm (H:=H) (id:=id) (q:=q) (b:=b) (sl:=sl) (sf:=sf) (sa:=sa) (n:=l.length) (most:=most)
 have hS1:=hW.next ((⟨b,sl,sf,sa⟩:Enc).add (ea l.length most))
 have htot:(((⟨b,sl,sf,sa⟩:Enc).add (ea l.length most)).add (bZ ik l))=(⟨b,sl,sf,sa⟩:Enc).add (b5 ik most l):=by rw [aP];rfl
 rw [← htot] at hl ⊢
 generalize ((⟨b,sl,sf,sa⟩:Enc).add (ea l.length most))=s1 at *
 generalize (sl||decide ((l.length:Int) > most))=L at *
 have hlv:∀ n,(AV.slice .any 2 (l.map (bb))).lt n:=fun n=>aL (fun x=>qf x)
 have hlc:=fun n=>@eu n most 318 r
 cases sl
 case' true =>
  rw [hL2 rfl] at hst
  simp only [go_sem,byq,hne,hneq,n1,n2,hcs,hcm,hA,hB,eh,hi0,hb0,aY,ybb]
 case' false =>
  simp only [go_sem,byq,hne,hneq,n1,n2,hcs,hcm,hA,hB,eh,hi0,hb0,aY,ybb,hL3 rfl]
 all_goals
  (repeat with_reducible refine And.intro (by first|assumption|decide|omega|exact ⟨by omega,by omega⟩) ?_)
  refine ay (A:=Nat) (fun k=>[(0,.ptr id 0),(4,.ptr H.nx 0),(33,.slice .any 2 (l.map (bb))),(34,.int .i64 (l.length:Int)),(35,.int .i64 (k:Int))])
   (fun k=>(swH H id q (s1.add (bZ ik (l.take k)))).push (.cells (bp most 318 r))) (fun k=>k≤l.length) (fun k=>l.length - k) 0 (by omega) ?_ fun k hk=>?_
  ·rw [yar,bZ,dY,hst]
   refine ⟨by simp only [zkq,zkv,zle,zlf,ax];omega,by repeat first|exact .refl _|refine .push ?_ _,?_,?_,?_⟩
   ·rw [← hst];exact ae (hcl1 _) (hlc _)
   ·simp [ltF,zle,zlf,znn,znf,hlv]
    omega
   ·simp [aS,wk2,wk1,wkM,Fr.get]
  simp only [go_sem]
  refine ah (fun hc=>?_) (fun hc=>?_)
  ·have hk':k<l.length:=by simp at hc;omega
   obtain ⟨x,hx⟩:∃ x,x=l[k]:=⟨_,rfl⟩
   have hg:=dx (f:=bb) (l:=l) (k:=k) (x:=x) (by rw [gQq hk',hx])
   have e5:=Yk5 k
   have hxo:=ha x (by rw [hx];exact gMq hk')
   obtain ⟨es,hlk⟩:=ex (g:=ik) hk' hx hl
   have hSk:=hW.next (s1.add (bZ ik (l.take k)))
   simp only [go_sem,iNq,ybb,hg,ax,bb,bp,bo]
   refine ⟨by omega,?_⟩
   refine nP (c:=bb) hxo (hSk.push2 _ _) hlk ?_
   rw [hF.p2,es]
   simp only [go_sem,e5]
   refine ⟨k+1,by omega,by omega,by simp only [zkq,zkv,zle,ax];omega,by repeat first|exact .refl _|refine .push ?_ _,ae (hcl1 _) (hlc _),?_,?_⟩
   ·simp [ltF,zle,ax,znn,znf,hlv]
    omega
   ·simp [aS,wk2,wk1,wkM,Fr.get]
  ·have hk':k=l.length:=by simp at hc;omega
   subst hk'
   rw [List.take_length]
   simp only [go_sem]
   refine ⟨?_,by repeat first|exact .refl _|refine .push ?_ _,hcl1 _,?_⟩
   ·simp [wk,wk2,wk1,af]
   ·simp [zns,znv]
def jO:List AV→AHeap→(AV→Prop)→Prop
 |[],_,K=>K (.agg (bp 4 318 319))
 |_,_,_=>False
theorem Dq:EntOk Tryz.prog 225 (Ent.pure jO):=by
 refine Ype fun _ H K h=>?_
 unfold jO at h
 split at h
 rotate_left
 ·exact h.elim
 refine ⟨_,h,?_⟩
 refine ACalls.fW ak tNq Tryz.func225 [.cell 0 273] (nrq _) (T:=ag []) (h:=fun hcl hlt=>?_)
 clear hlt
 simp only [go_sem,bp]
 exact Z16
def Aj:=eW (bv) mS j5
def wP:=gm 320 6 (bv) mS j5
theorem GZ:EntOk Tryz.prog 320 (Ent.effect Aj):=by
 unfold Aj
 refine EntOk.effect fun args H K h=>?_
 unfold eW at h
 split at h
 rotate_left
 ·exact h.elim
 rename_i id x
 obtain ⟨q,s,a,⟨hW,rfl,ha,hl⟩,hK⟩:=h
 refine ⟨_,_,hK,?_⟩
 clear hK
 have hF:=hW.facts
 have hcl0:=hW.closed (t:=s.add (j5 a))
 have hid:=glq hW.o
 have hq:=glq hW.bu
 refine ACalls.fW ak (tCq fJ (tCq uv tNq)) Tryz.func320 [] (by rw [ax];omega) (T:=ag []) (h:=fun hcl hlt=>?_)
 clear hlt
 have hcl1:=hcl0 hcl
 unfold j5 at hl hcl1 ⊢
 rw [← aP,← aP,← aP,← aP] at hl hcl1 ⊢
 have hl5:=hl
 have hl4:=bc hl5
 have hl3:=bc hl4
 have hl2:=bc hl3
 have hl1:=bc hl2
 simp only [go_sem,bv,vc,ax,aF]
 refine ep (.inl rfl) (hW.push _) hl1 ?_
 rw [hF.p0]
 simp only [go_sem,bv,vc,ax,aF]
 refine ep (.inr rfl) ((hW.next _).push _) hl2 ?_
 rw [hF.p1]
 simp only [go_sem,bv,vc,ax,aF]
 refine ep (.inl rfl) ((hW.next _).push _) hl3 ?_
 rw [hF.p1]
 simp only [go_sem,bv,vc,ax,aF]
 refine ep (.inr rfl) ((hW.next _).push _) hl4 ?_
 rw [hF.p1]
 simp only [go_sem,bv,vc,ax,aF]
 refine Ai (ha) ((hW.next _).push _) hl5 ?_
 rw [hF.p1]
 try simp only [go_sem,bv,vc,ax,aF]
 exact Z15
theorem BE:EntOk Tryz.prog 226 (Ent.effect wP):=by
 unfold wP
 refine EntOk.effect fun args H K h=>?_
 unfold gm at h
 split at h
 rotate_left
 ·exact h.elim
 rename_i id most f' r sz' xs
 obtain ⟨q,s,l,⟨hW,rfl,rfl,rfl,ha,hl⟩,hK⟩:=h
 refine ⟨_,_,hK,?_⟩
 clear hK
 have hF:=hW.facts
 have hcl0:=fun t=>hW.closed (t:=t)
 have hid:=glq hW.o
 have hq:=glq hW.bu
 have hll:=fj Eg hl
 obtain ⟨b,sl,sf,sa⟩:=s
 have hne:=cm hid
 have hneq:=cm hq
 have n1:(id=q)=False:=eq_false hW.ne
 have n2:(q=id)=False:=eq_false fun e=>hW.ne e.symm
 have hcs:=au hW.o
 have hb0:=hW.bu
 have hi0:=hW.o
 have hnn:=hW.ne
 have hlb:b.length≤cz:=bc hl
 rw [bo] at hlb
 dsimp only at hcs hb0 hi0 hlb
 have lw2:=cS (l.length:Int) 2
 refine ACalls.fW ak (tCq bP (tCq GZ tNq)) Tryz.func226 [] (by rw [ax];omega) (T:=ag [(2,[[],[],[],[],[],[],[],[],[4,7],[],[],[4,7]])]) (h:=fun hcl hlt=>?_)
 clear hlt
 have hcl1:=fun t=>hcl0 t hcl
 have hcm:=fun cs=>@bw H id cs hid
 have hA:=fun X Y=>@bM H id q X Y hnn hid
 have hB:=fun X=>cB (X:=X) hnn hb0
 have eh:=fun X Y Z=>@cC H id q X Y Z
 have hL2:sl=true→(sl||decide ((l.length:Int) > most))=true:=fun h=>by rw [h,Bool.true_or]
 have hL3:sl=false→decide ((l.length:Int) > most)=(sl||decide ((l.length:Int) > most)):=fun h=>by rw [h,Bool.false_or]
 have hst:=fm (H:=H) (id:=id) (q:=q) (b:=b) (sl:=sl) (sf:=sf) (sa:=sa) (n:=l.length) (most:=most)
 have hS1:=hW.next ((⟨b,sl,sf,sa⟩:Enc).add (ea l.length most))
 have htot:(((⟨b,sl,sf,sa⟩:Enc).add (ea l.length most)).add (bZ j5 l))=(⟨b,sl,sf,sa⟩:Enc).add (b5 j5 most l):=by rw [aP];rfl
 rw [← htot] at hl ⊢
 generalize ((⟨b,sl,sf,sa⟩:Enc).add (ea l.length most))=s1 at *
 generalize (sl||decide ((l.length:Int) > most))=L at *
 have hlv:∀ n,(AV.slice .any 6 (l.map (bv))).lt n:=fun n=>aL (fun x=>sJ x)
 have hlc:=fun n=>@eu n most 320 r
 cases sl
 case' true =>
  rw [hL2 rfl] at hst
  simp only [go_sem,byq,hne,hneq,n1,n2,hcs,hcm,hA,hB,eh,hi0,hb0,aY,ybb]
 case' false =>
  simp only [go_sem,byq,hne,hneq,n1,n2,hcs,hcm,hA,hB,eh,hi0,hb0,aY,ybb,hL3 rfl]
 all_goals
  (repeat with_reducible refine And.intro (by first|assumption|decide|omega|exact ⟨by omega,by omega⟩) ?_)
  refine ay (A:=Nat) (fun k=>[(0,.ptr id 0),(4,.ptr H.nx 0),(33,.slice .any 6 (l.map (bv))),(34,.int .i64 (l.length:Int)),(35,.int .i64 (k:Int))])
   (fun k=>(swH H id q (s1.add (bZ j5 (l.take k)))).push (.cells (bp most 320 r))) (fun k=>k≤l.length) (fun k=>l.length - k) 0 (by omega) ?_ fun k hk=>?_
  ·rw [yar,bZ,dY,hst]
   refine ⟨by simp only [zkq,zkv,zle,zlf,ax];omega,by repeat first|exact .refl _|refine .push ?_ _,?_,?_,?_⟩
   ·rw [← hst];exact ae (hcl1 _) (hlc _)
   ·simp [ltF,zle,zlf,znn,znf,hlv]
    omega
   ·simp [aS,wk2,wk1,wkM,Fr.get]
  simp only [go_sem]
  refine ah (fun hc=>?_) (fun hc=>?_)
  ·have hk':k<l.length:=by simp at hc;omega
   obtain ⟨x,hx⟩:∃ x,x=l[k]:=⟨_,rfl⟩
   have hg:=dx (f:=bv) (l:=l) (k:=k) (x:=x) (by rw [gQq hk',hx])
   have e5:=Yk5 k
   have hxo:=ha x (by rw [hx];exact gMq hk')
   obtain ⟨es,hlk⟩:=ex (g:=j5) hk' hx hl
   have hSk:=hW.next (s1.add (bZ j5 (l.take k)))
   simp only [go_sem,iNq,ybb,hg,ax,bv,vc,bp,bo]
   refine ⟨by omega,?_⟩
   refine nP (c:=bv) hxo (hSk.push2 _ _) hlk ?_
   rw [hF.p2,es]
   simp only [go_sem,e5]
   refine ⟨k+1,by omega,by omega,by simp only [zkq,zkv,zle,ax];omega,by repeat first|exact .refl _|refine .push ?_ _,ae (hcl1 _) (hlc _),?_,?_⟩
   ·simp [ltF,zle,ax,znn,znf,hlv]
    omega
   ·simp [aS,wk2,wk1,wkM,Fr.get]
  ·have hk':k=l.length:=by simp at hc;omega
   subst hk'
   rw [List.take_length]
   simp only [go_sem]
   refine ⟨?_,by repeat first|exact .refl _|refine .push ?_ _,hcl1 _,?_⟩
   ·simp [wk,wk2,wk1,af]
   ·simp [zns,znv]
def jM:List AV→AHeap→(AV→Prop)→Prop
 |[],_,K=>K (.agg (bp 12 320 321))
 |_,_,_=>False
theorem FM:EntOk Tryz.prog 227 (Ent.pure jM):=by
 refine Ype fun _ H K h=>?_
 unfold jM at h
 split at h
 rotate_left
 ·exact h.elim
 refine ⟨_,h,?_⟩
 refine ACalls.fW ak tNq Tryz.func227 [.cell 0 279] (nrq _) (T:=ag []) (h:=fun hcl hlt=>?_)
 clear hlt
 simp only [go_sem,bp]
 exact Z16
def zS:=eW (br) EU nH
def vT:=gm 322 3 (br) EU nH
theorem FG:EntOk Tryz.prog 322 (Ent.effect zS):=by
 unfold zS
 refine EntOk.effect fun args H K h=>?_
 unfold eW at h
 split at h
 rotate_left
 ·exact h.elim
 rename_i id x
 obtain ⟨q,s,a,⟨hW,rfl,ha,hl⟩,hK⟩:=h
 refine ⟨_,_,hK,?_⟩
 clear hK
 have hF:=hW.facts
 have hcl0:=hW.closed (t:=s.add (nH a))
 have hid:=glq hW.o
 have hq:=glq hW.bu
 refine ACalls.fW ak (tCq kL (tCq fJ tNq)) Tryz.func322 [] (by rw [ax];omega) (T:=ag []) (h:=fun hcl hlt=>?_)
 clear hlt
 have hcl1:=hcl0 hcl
 unfold nH at hl hcl1 ⊢
 rw [← aP,← aP] at hl hcl1 ⊢
 have hl3:=hl
 have hl2:=bc hl3
 have hl1:=bc hl2
 simp only [go_sem,br,ax,aF]
 refine nK (ha) (hW.push _) hl1 ?_
 rw [hF.p0]
 simp only [go_sem,br,ax,aF]
 refine ep (.inr rfl) ((hW.next _).push _) hl2 ?_
 rw [hF.p1]
 simp only [go_sem,br,ax,aF]
 refine ep (.inl rfl) ((hW.next _).push _) hl3 ?_
 rw [hF.p1]
 try simp only [go_sem,br,ax,aF]
 exact Z15
theorem Cm:EntOk Tryz.prog 232 (Ent.effect vT):=by
 unfold vT
 refine EntOk.effect fun args H K h=>?_
 unfold gm at h
 split at h
 rotate_left
 ·exact h.elim
 rename_i id most f' r sz' xs
 obtain ⟨q,s,l,⟨hW,rfl,rfl,rfl,ha,hl⟩,hK⟩:=h
 refine ⟨_,_,hK,?_⟩
 clear hK
 have hF:=hW.facts
 have hcl0:=fun t=>hW.closed (t:=t)
 have hid:=glq hW.o
 have hq:=glq hW.bu
 have hll:=fj IR hl
 obtain ⟨b,sl,sf,sa⟩:=s
 have hne:=cm hid
 have hneq:=cm hq
 have n1:(id=q)=False:=eq_false hW.ne
 have n2:(q=id)=False:=eq_false fun e=>hW.ne e.symm
 have hcs:=au hW.o
 have hb0:=hW.bu
 have hi0:=hW.o
 have hnn:=hW.ne
 have hlb:b.length≤cz:=bc hl
 rw [bo] at hlb
 dsimp only at hcs hb0 hi0 hlb
 have lw2:=cS (l.length:Int) 2
 refine ACalls.fW ak (tCq bP (tCq FG tNq)) Tryz.func232 [] (by rw [ax];omega) (T:=ag [(2,[[],[],[],[],[],[],[],[],[4,7],[],[],[4,7]])]) (h:=fun hcl hlt=>?_)
 clear hlt
 have hcl1:=fun t=>hcl0 t hcl
 have hcm:=fun cs=>@bw H id cs hid
 have hA:=fun X Y=>@bM H id q X Y hnn hid
 have hB:=fun X=>cB (X:=X) hnn hb0
 have eh:=fun X Y Z=>@cC H id q X Y Z
 have hL2:sl=true→(sl||decide ((l.length:Int) > most))=true:=fun h=>by rw [h,Bool.true_or]
 have hL3:sl=false→decide ((l.length:Int) > most)=(sl||decide ((l.length:Int) > most)):=fun h=>by rw [h,Bool.false_or]
 have hst:=fm (H:=H) (id:=id) (q:=q) (b:=b) (sl:=sl) (sf:=sf) (sa:=sa) (n:=l.length) (most:=most)
 have hS1:=hW.next ((⟨b,sl,sf,sa⟩:Enc).add (ea l.length most))
 have htot:(((⟨b,sl,sf,sa⟩:Enc).add (ea l.length most)).add (bZ nH l))=(⟨b,sl,sf,sa⟩:Enc).add (b5 nH most l):=by rw [aP];rfl
 rw [← htot] at hl ⊢
 generalize ((⟨b,sl,sf,sa⟩:Enc).add (ea l.length most))=s1 at *
 generalize (sl||decide ((l.length:Int) > most))=L at *
 have hlv:∀ n,(AV.slice .any 3 (l.map (br))).lt n:=fun n=>aL (fun x=>xt x)
 have hlc:=fun n=>@eu n most 322 r
 cases sl
 case' true =>
  rw [hL2 rfl] at hst
  simp only [go_sem,byq,hne,hneq,n1,n2,hcs,hcm,hA,hB,eh,hi0,hb0,aY,ybb]
 case' false =>
  simp only [go_sem,byq,hne,hneq,n1,n2,hcs,hcm,hA,hB,eh,hi0,hb0,aY,ybb,hL3 rfl]
 all_goals
  (repeat with_reducible refine And.intro (by first|assumption|decide|omega|exact ⟨by omega,by omega⟩) ?_)
  refine ay (A:=Nat) (fun k=>[(0,.ptr id 0),(4,.ptr H.nx 0),(33,.slice .any 3 (l.map (br))),(34,.int .i64 (l.length:Int)),(35,.int .i64 (k:Int))])
   (fun k=>(swH H id q (s1.add (bZ nH (l.take k)))).push (.cells (bp most 322 r))) (fun k=>k≤l.length) (fun k=>l.length - k) 0 (by omega) ?_ fun k hk=>?_
  ·rw [yar,bZ,dY,hst]
   refine ⟨by simp only [zkq,zkv,zle,zlf,ax];omega,by repeat first|exact .refl _|refine .push ?_ _,?_,?_,?_⟩
   ·rw [← hst];exact ae (hcl1 _) (hlc _)
   ·simp [ltF,zle,zlf,znn,znf,hlv]
    omega
   ·simp [aS,wk2,wk1,wkM,Fr.get]
  simp only [go_sem]
  refine ah (fun hc=>?_) (fun hc=>?_)
  ·have hk':k<l.length:=by simp at hc;omega
   obtain ⟨x,hx⟩:∃ x,x=l[k]:=⟨_,rfl⟩
   have hg:=dx (f:=br) (l:=l) (k:=k) (x:=x) (by rw [gQq hk',hx])
   have e5:=Yk5 k
   have hxo:=ha x (by rw [hx];exact gMq hk')
   obtain ⟨es,hlk⟩:=ex (g:=nH) hk' hx hl
   have hSk:=hW.next (s1.add (bZ nH (l.take k)))
   simp only [go_sem,iNq,ybb,hg,ax,br,bp,bo]
   refine ⟨by omega,?_⟩
   refine nP (c:=br) hxo (hSk.push2 _ _) hlk ?_
   rw [hF.p2,es]
   simp only [go_sem,e5]
   refine ⟨k+1,by omega,by omega,by simp only [zkq,zkv,zle,ax];omega,by repeat first|exact .refl _|refine .push ?_ _,ae (hcl1 _) (hlc _),?_,?_⟩
   ·simp [ltF,zle,ax,znn,znf,hlv]
    omega
   ·simp [aS,wk2,wk1,wkM,Fr.get]
  ·have hk':k=l.length:=by simp at hc;omega
   subst hk'
   rw [List.take_length]
   simp only [go_sem]
   refine ⟨?_,by repeat first|exact .refl _|refine .push ?_ _,hcl1 _,?_⟩
   ·simp [wk,wk2,wk1,af]
   ·simp [zns,znv]
def ig:List AV→AHeap→(AV→Prop)→Prop
 |[],_,K=>K (.agg (bp 4 322 323))
 |_,_,_=>False
theorem EX:EntOk Tryz.prog 233 (Ent.pure ig):=by
 refine Ype fun _ H K h=>?_
 unfold ig at h
 split at h
 rotate_left
 ·exact h.elim
 refine ⟨_,h,?_⟩
 refine ACalls.fW ak tNq Tryz.func233 [.cell 0 287] (nrq _) (T:=ag []) (h:=fun hcl hlt=>?_)
 clear hlt
 simp only [go_sem,bp]
 exact Z16
def A6:=eW (bB) nv gW
def v3:=gm 239 2 (bB) nv gW
theorem GY:EntOk Tryz.prog 239 (Ent.effect A6):=by
 unfold A6
 refine EntOk.effect fun args H K h=>?_
 unfold eW at h
 split at h
 rotate_left
 ·exact h.elim
 rename_i id x
 obtain ⟨q,s,a,⟨hW,rfl,ha,hl⟩,hK⟩:=h
 refine ⟨_,_,hK,?_⟩
 clear hK
 have hF:=hW.facts
 have hcl0:=hW.closed (t:=s.add (gW a))
 have hid:=glq hW.o
 have hq:=glq hW.bu
 refine ACalls.fW ak (tCq fJ tNq) Tryz.func239 [] (by rw [ax];omega) (T:=ag []) (h:=fun hcl hlt=>?_)
 clear hlt
 have hcl1:=hcl0 hcl
 unfold gW at hl hcl1 ⊢
 rw [← aP] at hl hcl1 ⊢
 have hl2:=hl
 have hl1:=bc hl2
 simp only [go_sem,bB,ax,aF]
 refine ep (.inr rfl) (hW.push _) hl1 ?_
 rw [hF.p0]
 simp only [go_sem,bB,ax,aF]
 refine ep (.inr rfl) ((hW.next _).push _) hl2 ?_
 rw [hF.p1]
 try simp only [go_sem,bB,ax,aF]
 exact Z15
theorem BM:EntOk Tryz.prog 91 (Ent.effect v3):=by
 unfold v3
 refine EntOk.effect fun args H K h=>?_
 unfold gm at h
 split at h
 rotate_left
 ·exact h.elim
 rename_i id most f' r sz' xs
 obtain ⟨q,s,l,⟨hW,rfl,rfl,rfl,ha,hl⟩,hK⟩:=h
 refine ⟨_,_,hK,?_⟩
 clear hK
 have hF:=hW.facts
 have hcl0:=fun t=>hW.closed (t:=t)
 have hid:=glq hW.o
 have hq:=glq hW.bu
 have hll:=fj BF hl
 obtain ⟨b,sl,sf,sa⟩:=s
 have hne:=cm hid
 have hneq:=cm hq
 have n1:(id=q)=False:=eq_false hW.ne
 have n2:(q=id)=False:=eq_false fun e=>hW.ne e.symm
 have hcs:=au hW.o
 have hb0:=hW.bu
 have hi0:=hW.o
 have hnn:=hW.ne
 have hlb:b.length≤cz:=bc hl
 rw [bo] at hlb
 dsimp only at hcs hb0 hi0 hlb
 have lw2:=cS (l.length:Int) 2
 refine ACalls.fW ak (tCq bP (tCq GY tNq)) Tryz.func91 [] (by rw [ax];omega) (T:=ag [(2,[[],[],[],[],[],[],[],[],[4,7],[],[],[4,7]])]) (h:=fun hcl hlt=>?_)
 clear hlt
 have hcl1:=fun t=>hcl0 t hcl
 have hcm:=fun cs=>@bw H id cs hid
 have hA:=fun X Y=>@bM H id q X Y hnn hid
 have hB:=fun X=>cB (X:=X) hnn hb0
 have eh:=fun X Y Z=>@cC H id q X Y Z
 have hL2:sl=true→(sl||decide ((l.length:Int) > most))=true:=fun h=>by rw [h,Bool.true_or]
 have hL3:sl=false→decide ((l.length:Int) > most)=(sl||decide ((l.length:Int) > most)):=fun h=>by rw [h,Bool.false_or]
 have hst:=fm (H:=H) (id:=id) (q:=q) (b:=b) (sl:=sl) (sf:=sf) (sa:=sa) (n:=l.length) (most:=most)
 have hS1:=hW.next ((⟨b,sl,sf,sa⟩:Enc).add (ea l.length most))
 have htot:(((⟨b,sl,sf,sa⟩:Enc).add (ea l.length most)).add (bZ gW l))=(⟨b,sl,sf,sa⟩:Enc).add (b5 gW most l):=by rw [aP];rfl
 rw [← htot] at hl ⊢
 generalize ((⟨b,sl,sf,sa⟩:Enc).add (ea l.length most))=s1 at *
 generalize (sl||decide ((l.length:Int) > most))=L at *
 have hlv:∀ n,(AV.slice .any 2 (l.map (bB))).lt n:=fun n=>aL (fun x=>yQ x)
 have hlc:=fun n=>@eu n most 239 r
 cases sl
 case' true =>
  rw [hL2 rfl] at hst
  simp only [go_sem,byq,hne,hneq,n1,n2,hcs,hcm,hA,hB,eh,hi0,hb0,aY,ybb]
 case' false =>
  simp only [go_sem,byq,hne,hneq,n1,n2,hcs,hcm,hA,hB,eh,hi0,hb0,aY,ybb,hL3 rfl]
 all_goals
  (repeat with_reducible refine And.intro (by first|assumption|decide|omega|exact ⟨by omega,by omega⟩) ?_)
  refine ay (A:=Nat) (fun k=>[(0,.ptr id 0),(4,.ptr H.nx 0),(33,.slice .any 2 (l.map (bB))),(34,.int .i64 (l.length:Int)),(35,.int .i64 (k:Int))])
   (fun k=>(swH H id q (s1.add (bZ gW (l.take k)))).push (.cells (bp most 239 r))) (fun k=>k≤l.length) (fun k=>l.length - k) 0 (by omega) ?_ fun k hk=>?_
  ·rw [yar,bZ,dY,hst]
   refine ⟨by simp only [zkq,zkv,zle,zlf,ax];omega,by repeat first|exact .refl _|refine .push ?_ _,?_,?_,?_⟩
   ·rw [← hst];exact ae (hcl1 _) (hlc _)
   ·simp [ltF,zle,zlf,znn,znf,hlv]
    omega
   ·simp [aS,wk2,wk1,wkM,Fr.get]
  simp only [go_sem]
  refine ah (fun hc=>?_) (fun hc=>?_)
  ·have hk':k<l.length:=by simp at hc;omega
   obtain ⟨x,hx⟩:∃ x,x=l[k]:=⟨_,rfl⟩
   have hg:=dx (f:=bB) (l:=l) (k:=k) (x:=x) (by rw [gQq hk',hx])
   have e5:=Yk5 k
   have hxo:=ha x (by rw [hx];exact gMq hk')
   obtain ⟨es,hlk⟩:=ex (g:=gW) hk' hx hl
   have hSk:=hW.next (s1.add (bZ gW (l.take k)))
   simp only [go_sem,iNq,ybb,hg,ax,bB,bp,bo]
   refine ⟨by omega,?_⟩
   refine nP (c:=bB) hxo (hSk.push2 _ _) hlk ?_
   rw [hF.p2,es]
   simp only [go_sem,e5]
   refine ⟨k+1,by omega,by omega,by simp only [zkq,zkv,zle,ax];omega,by repeat first|exact .refl _|refine .push ?_ _,ae (hcl1 _) (hlc _),?_,?_⟩
   ·simp [ltF,zle,ax,znn,znf,hlv]
    omega
   ·simp [aS,wk2,wk1,wkM,Fr.get]
  ·have hk':k=l.length:=by simp at hc;omega
   subst hk'
   rw [List.take_length]
   simp only [go_sem]
   refine ⟨?_,by repeat first|exact .refl _|refine .push ?_ _,hcl1 _,?_⟩
   ·simp [wk,wk2,wk1,af]
   ·simp [zns,znv]
def gC:List AV→AHeap→(AV→Prop)→Prop
 |[],_,K=>K (.agg (bp 12 239 240))
 |_,_,_=>False
theorem Fg:EntOk Tryz.prog 92 (Ent.pure gC):=by
 refine Ype fun _ H K h=>?_
 unfold gC at h
 split at h
 rotate_left
 ·exact h.elim
 refine ⟨_,h,?_⟩
 refine ACalls.fW ak tNq Tryz.func92 [.cell 0 171] (nrq _) (T:=ag []) (h:=fun hcl hlt=>?_)
 clear hlt
 simp only [go_sem,bp]
 exact Z16
def AZ:=eW (bL) nv mV
def vW:=gm 248 6 (bL) nv mV
theorem Gz:EntOk Tryz.prog 248 (Ent.effect AZ):=by
 unfold AZ
 refine EntOk.effect fun args H K h=>?_
 unfold eW at h
 split at h
 rotate_left
 ·exact h.elim
 rename_i id x
 obtain ⟨q,s,a,⟨hW,rfl,ha,hl⟩,hK⟩:=h
 refine ⟨_,_,hK,?_⟩
 clear hK
 have hF:=hW.facts
 have hcl0:=hW.closed (t:=s.add (mV a))
 have hid:=glq hW.o
 have hq:=glq hW.bu
 refine ACalls.fW ak (tCq fJ tNq) Tryz.func248 [] (by rw [ax];omega) (T:=ag []) (h:=fun hcl hlt=>?_)
 clear hlt
 have hcl1:=hcl0 hcl
 unfold mV at hl hcl1 ⊢
 rw [← aP,← aP,← aP,← aP,← aP] at hl hcl1 ⊢
 have hl6:=hl
 have hl5:=bc hl6
 have hl4:=bc hl5
 have hl3:=bc hl4
 have hl2:=bc hl3
 have hl1:=bc hl2
 simp only [go_sem,bL,ax,aF]
 refine ep (.inr rfl) (hW.push _) hl1 ?_
 rw [hF.p0]
 simp only [go_sem,bL,ax,aF]
 refine ep (.inl rfl) ((hW.next _).push _) hl2 ?_
 rw [hF.p1]
 simp only [go_sem,bL,ax,aF]
 refine ep (.inr rfl) ((hW.next _).push _) hl3 ?_
 rw [hF.p1]
 simp only [go_sem,bL,ax,aF]
 refine ep (.inl rfl) ((hW.next _).push _) hl4 ?_
 rw [hF.p1]
 simp only [go_sem,bL,ax,aF]
 refine ep (.inr rfl) ((hW.next _).push _) hl5 ?_
 rw [hF.p1]
 simp only [go_sem,bL,ax,aF]
 refine ep (.inl rfl) ((hW.next _).push _) hl6 ?_
 rw [hF.p1]
 try simp only [go_sem,bL,ax,aF]
 exact Z15
theorem BA:EntOk Tryz.prog 95 (Ent.effect vW):=by
 unfold vW
 refine EntOk.effect fun args H K h=>?_
 unfold gm at h
 split at h
 rotate_left
 ·exact h.elim
 rename_i id most f' r sz' xs
 obtain ⟨q,s,l,⟨hW,rfl,rfl,rfl,ha,hl⟩,hK⟩:=h
 refine ⟨_,_,hK,?_⟩
 clear hK
 have hF:=hW.facts
 have hcl0:=fun t=>hW.closed (t:=t)
 have hid:=glq hW.o
 have hq:=glq hW.bu
 have hll:=fj Je hl
 obtain ⟨b,sl,sf,sa⟩:=s
 have hne:=cm hid
 have hneq:=cm hq
 have n1:(id=q)=False:=eq_false hW.ne
 have n2:(q=id)=False:=eq_false fun e=>hW.ne e.symm
 have hcs:=au hW.o
 have hb0:=hW.bu
 have hi0:=hW.o
 have hnn:=hW.ne
 have hlb:b.length≤cz:=bc hl
 rw [bo] at hlb
 dsimp only at hcs hb0 hi0 hlb
 have lw2:=cS (l.length:Int) 2
 refine ACalls.fW ak (tCq bP (tCq Gz tNq)) Tryz.func95 [] (by rw [ax];omega) (T:=ag [(2,[[],[],[],[],[],[],[],[],[4,7],[],[],[4,7]])]) (h:=fun hcl hlt=>?_)
 clear hlt
 have hcl1:=fun t=>hcl0 t hcl
 have hcm:=fun cs=>@bw H id cs hid
 have hA:=fun X Y=>@bM H id q X Y hnn hid
 have hB:=fun X=>cB (X:=X) hnn hb0
 have eh:=fun X Y Z=>@cC H id q X Y Z
 have hL2:sl=true→(sl||decide ((l.length:Int) > most))=true:=fun h=>by rw [h,Bool.true_or]
 have hL3:sl=false→decide ((l.length:Int) > most)=(sl||decide ((l.length:Int) > most)):=fun h=>by rw [h,Bool.false_or]
 have hst:=fm (H:=H) (id:=id) (q:=q) (b:=b) (sl:=sl) (sf:=sf) (sa:=sa) (n:=l.length) (most:=most)
 have hS1:=hW.next ((⟨b,sl,sf,sa⟩:Enc).add (ea l.length most))
 have htot:(((⟨b,sl,sf,sa⟩:Enc).add (ea l.length most)).add (bZ mV l))=(⟨b,sl,sf,sa⟩:Enc).add (b5 mV most l):=by rw [aP];rfl
 rw [← htot] at hl ⊢
 generalize ((⟨b,sl,sf,sa⟩:Enc).add (ea l.length most))=s1 at *
 generalize (sl||decide ((l.length:Int) > most))=L at *
 have hlv:∀ n,(AV.slice .any 6 (l.map (bL))).lt n:=fun n=>aL (fun x=>Ej x)
 have hlc:=fun n=>@eu n most 248 r
 cases sl
 case' true =>
  rw [hL2 rfl] at hst
  simp only [go_sem,byq,hne,hneq,n1,n2,hcs,hcm,hA,hB,eh,hi0,hb0,aY,ybb]
 case' false =>
  simp only [go_sem,byq,hne,hneq,n1,n2,hcs,hcm,hA,hB,eh,hi0,hb0,aY,ybb,hL3 rfl]
 all_goals
  (repeat with_reducible refine And.intro (by first|assumption|decide|omega|exact ⟨by omega,by omega⟩) ?_)
  refine ay (A:=Nat) (fun k=>[(0,.ptr id 0),(4,.ptr H.nx 0),(33,.slice .any 6 (l.map (bL))),(34,.int .i64 (l.length:Int)),(35,.int .i64 (k:Int))])
   (fun k=>(swH H id q (s1.add (bZ mV (l.take k)))).push (.cells (bp most 248 r))) (fun k=>k≤l.length) (fun k=>l.length - k) 0 (by omega) ?_ fun k hk=>?_
  ·rw [yar,bZ,dY,hst]
   refine ⟨by simp only [zkq,zkv,zle,zlf,ax];omega,by repeat first|exact .refl _|refine .push ?_ _,?_,?_,?_⟩
   ·rw [← hst];exact ae (hcl1 _) (hlc _)
   ·simp [ltF,zle,zlf,znn,znf,hlv]
    omega
   ·simp [aS,wk2,wk1,wkM,Fr.get]
  simp only [go_sem]
  refine ah (fun hc=>?_) (fun hc=>?_)
  ·have hk':k<l.length:=by simp at hc;omega
   obtain ⟨x,hx⟩:∃ x,x=l[k]:=⟨_,rfl⟩
   have hg:=dx (f:=bL) (l:=l) (k:=k) (x:=x) (by rw [gQq hk',hx])
   have e5:=Yk5 k
   have hxo:=ha x (by rw [hx];exact gMq hk')
   obtain ⟨es,hlk⟩:=ex (g:=mV) hk' hx hl
   have hSk:=hW.next (s1.add (bZ mV (l.take k)))
   simp only [go_sem,iNq,ybb,hg,ax,bL,bp,bo]
   refine ⟨by omega,?_⟩
   refine nP (c:=bL) hxo (hSk.push2 _ _) hlk ?_
   rw [hF.p2,es]
   simp only [go_sem,e5]
   refine ⟨k+1,by omega,by omega,by simp only [zkq,zkv,zle,ax];omega,by repeat first|exact .refl _|refine .push ?_ _,ae (hcl1 _) (hlc _),?_,?_⟩
   ·simp [ltF,zle,ax,znn,znf,hlv]
    omega
   ·simp [aS,wk2,wk1,wkM,Fr.get]
  ·have hk':k=l.length:=by simp at hc;omega
   subst hk'
   rw [List.take_length]
   simp only [go_sem]
   refine ⟨?_,by repeat first|exact .refl _|refine .push ?_ _,hcl1 _,?_⟩
   ·simp [wk,wk2,wk1,af]
   ·simp [zns,znv]
def gM:List AV→AHeap→(AV→Prop)→Prop
 |[],_,K=>K (.agg (bp 8 248 249))
 |_,_,_=>False
theorem EE:EntOk Tryz.prog 96 (Ent.pure gM):=by
 refine Ype fun _ H K h=>?_
 unfold gM at h
 split at h
 rotate_left
 ·exact h.elim
 refine ⟨_,h,?_⟩
 refine ACalls.fW ak tNq Tryz.func96 [.cell 0 183] (nrq _) (T:=ag []) (h:=fun hcl hlt=>?_)
 clear hlt
 simp only [go_sem,bp]
 exact Z16
end Go.AL
