/- Lemmas of the proof; no condition. -/
import Derived.Test.YthnlhjalhflgfaaGreatW03c
set_option linter.all false
set_option maxRecDepth 10000
set_option maxHeartbeats 32000000
open List renaming take_zero → yar, nil_append → yak, drop_eq_nil_of_le → ybf, append_nil → yaj, length_cons → yaz, length_nil → yba, take_of_length_le → ybc, drop_append → ybd, take_append → ybe, length_map → ybb
open Go Go.AL Go.Proofs
namespace Go.AL
theorem A7:ti Tryz.prog 253=some ⟨.struct [(0,3,false),(1,250,false),(2,251,false)],3,24,.agg [.int .i64 0,.nilf,.nilf]⟩:=by kernel_rfl
theorem H6:ti Tryz.prog 250=some ⟨.func,1,8,.nilf⟩:=by kernel_rfl
theorem EU:ti Tryz.prog 251=some ⟨.func,1,8,.nilf⟩:=by kernel_rfl
theorem Bb:ti Tryz.prog 287=some ⟨.struct [(0,3,false),(1,284,false),(2,285,false)],3,24,.agg [.int .i64 0,.nilf,.nilf]⟩:=by kernel_rfl
theorem GU:ti Tryz.prog 284=some ⟨.func,1,8,.nilf⟩:=by kernel_rfl
theorem Ft:ti Tryz.prog 285=some ⟨.func,1,8,.nilf⟩:=by kernel_rfl
theorem A4:ti Tryz.prog 333=some ⟨.struct [(0,3,false),(1,330,false),(2,331,false)],3,24,.agg [.int .i64 0,.nilf,.nilf]⟩:=by kernel_rfl
theorem Ez:ti Tryz.prog 330=some ⟨.func,1,8,.nilf⟩:=by kernel_rfl
theorem HR:ti Tryz.prog 331=some ⟨.func,1,8,.nilf⟩:=by kernel_rfl
theorem Cg:ti Tryz.prog 128=some ⟨.struct [(0,3,false),(1,125,false),(2,126,false)],3,24,.agg [.int .i64 0,.nilf,.nilf]⟩:=by kernel_rfl
theorem CE:ti Tryz.prog 125=some ⟨.func,1,8,.nilf⟩:=by kernel_rfl
theorem FA:ti Tryz.prog 126=some ⟨.func,1,8,.nilf⟩:=by kernel_rfl
theorem Bw:ti Tryz.prog 260=some ⟨.struct [(0,3,false),(1,257,false),(2,258,false)],3,24,.agg [.int .i64 0,.nilf,.nilf]⟩:=by kernel_rfl
theorem DE:ti Tryz.prog 257=some ⟨.func,1,8,.nilf⟩:=by kernel_rfl
theorem FK:ti Tryz.prog 258=some ⟨.func,1,8,.nilf⟩:=by kernel_rfl
attribute [go_sem] A7 H6 EU Bb GU Ft A4 Ez HR Cg CE FA Bw DE FK
theorem dZ {n:Nat} {f:Fn}:AV.lt n (.func f [] []):=by rw [AV.lt];exact ⟨fun j hj=>absurd hj (by simp),fun j hj=>absurd hj (by simp)⟩
def bw (most:Int) (f r:Nat):List AV:=[.int .i64 most,.func (.func f) [] [],.func (.func r) [] []]
theorem eD {n:Nat} {most:Int} {f r:Nat}:ltL n (bw most f r):=by simp [bw,znu,znv,znf,dZ]
theorem fA {α:Type} {g:α→Enc} (h1:∀ x,1≤(g x).b.length) {l:List α} {s:Enc} {m:Int} (hl:(s.add (bF g m l)).b.length≤cG):l.length≤100000000000000:=by
 have h2:=zG h1 l
 unfold bF at hl
 rw [aQ,aQ,br] at hl
 omega
theorem eE {α:Type} {g:α→Enc} {l:List α} {s:Enc} {k:Nat} {x:α} (hk:k<l.length) (hx:x=l[k]) (hl:(s.add (bR g l)).b.length≤cG) :
 (s.add (bR g (l.take k))).add (g x)=s.add (bR g (l.take (k+1)))∧((s.add (bR g (l.take k))).add (g x)).b.length≤cG:=by
 have et:l.take (k+1)=l.take k++[x]:=by rw [hx,List.take_succ_eq_append_getElem hk]
 have es:(s.add (bR g (l.take k))).add (g x)=s.add (bR g (l.take (k+1))):=by rw [aR,← AQ,et]
 refine ⟨es,?_⟩
 have h1:=AJ g l (k+1)
 rw [es]
 rw [aQ] at hl ⊢
 omega
theorem bS {H:AHeap} {id q:Nat} {X:List AV} {Y:AObj} (hn:id≠q) (hid:id<H.nx):aI ((H.set id (.cells X)).set q Y) id=some X:=by
 unfold aI;rw [AHeap.get_set_ne _ _ hn,AHeap.get_set_same _ _ hid]
theorem cL {H:AHeap} {id q:Nat} {X o:AObj} (hn:id≠q) (h:H.get q=some o):(H.set id X).get q=some o:=by rw [AHeap.get_set_ne _ _ (fun e=>hn e.symm)];exact h
theorem cM {H:AHeap} {id q:Nat} {X Y Z:AObj}:((H.set id X).set q Y).set id Z=(H.set q Y).set id Z:=by
 unfold AHeap.set;congr 1;funext j;dsimp only;by_cases h1:j=id<;>simp [h1]
theorem fw {H:AHeap} {id q n:Nat} {b:List UInt8} {sl sf sa:Bool} {most:Int}:swH H id q ((⟨b,sl,sf,sa⟩:Enc).add (d7 n most))=(H.set q (.buf 1 (b.length+(jz (n:Int) 2).length))).set id (.cells (swC q (b++jz (n:Int) 2) (sl||decide ((n:Int) > most)) sf sa)):=by
 unfold swH Enc.add d7 swC
 simp only [Bool.or_false,lAq]
theorem SOn.push2 {H:AHeap} {id q:Nat} {s:Enc} (h:SOn H id q s) (x y:AObj):SOn ((H.push x).push y) id q s:=(h.push x).push y
theorem aF {H:AHeap} {id q:Nat} {s:Enc}:(swH H id q s).nx=H.nx:=az
theorem LO {n v:Nat}:(vv v).lt n:=by simp [vv,znr,znu,znv,znf]
theorem yz {n:Nat} (x:SField):(aX x).lt n:=by simp [aX,znr,znu,znv,znf,znh]
theorem tV {n:Nat} (x:SCase):(cI x).lt n:=by simp [cI,vc,znr,znu,znv,znf]
theorem sO {n:Nat} (x:SParam):(bv x).lt n:=by simp [bv,znr,znu,znv,znf,znh]
theorem tP {n:Nat} (x:SPrim):(bV x).lt n:=by simp [bV,vc,znr,znu,znv,znf]
theorem wO {n:Nat} (x:SKey):(bE x).lt n:=by simp [bE,znr,znu,znv,znf,znh]
theorem x7 {n:Nat} (x:SStage):(bx x).lt n:=by simp [bx,znr,znu,znv,znf]
theorem Fm {n:Nat} (x:SRef):(bU x).lt n:=by simp [bU,znr,znu,znv,znf]
theorem wS {n:Nat} (x:SHeader):(aH x).lt n:=by simp [aH,inL,znr,znu,znv,znf,znh,aZ fun _=>of_eq_true znf]
theorem xO {n:Nat} (x:SState):(aO x).lt n:=by simp [aO,znr,znu,znv,znf,aZ tV]
theorem ww {n:Nat} (x:SAction):(aA x).lt n:=by simp [aA,znr,znu,znv,znf,znh,aZ sO,aZ tP]
theorem ra {n:Nat} (x:SGrant):(bj x).lt n:=by simp [bj,boL,znr,znu,znv,znf,zng,aZ fun _=>of_eq_true zng]
theorem xI {n:Nat} (x:STable):(aC x).lt n:=by simp [aC,inL,znr,znu,znv,znf,znh,aZ fun _=>of_eq_true znf,aZ wO,aZ fun _=>LO]
theorem B4 {n:Nat} (x:SRole):(bc x).lt n:=by simp [bc,inL,znr,znu,znv,znf,znh,zng,aZ fun _=>of_eq_true znf,aZ ra]
theorem dm {zs cs:List AV} (h:zs.length=cs.length):splice zs 0 cs=cs:=by
 rw [nE zs cs 0 (by omega),yar,yak,ybf (by omega),yaj]
theorem iZ {α:Type} {P:Program} {f wf sz:Nat} {c:α→AV} {ok:α→Prop} {g:α→Enc} (hone:∀ x,1≤(g x).b.length) (hlt:∀ n x,(c x).lt n) (hag:∀ x,∃ cs,c x=.agg cs∧cs.length=sz∧cg cs=true)
 (h:∀ (wf' sz':Nat) (c':α→AV) (ok':α→Prop) (g':α→Enc),wf'=wf→sz'=sz→c'=c→ok'=ok→g'=g→(∀ x,1≤(g' x).b.length)→(∀ n x,(c' x).lt n)→(∀ x,∃ cs,c' x=.agg cs∧cs.length=sz'∧cg cs=true)→∀ (id:Nat) (most:Int) (r q:Nat) (s:Enc) (l:List α) (H:AHeap),SOn H id q s→(∀ a∈l,ok' a)→(s.add (bF g' most l)).b.length≤cG→ACalls P f [.ptr id 0,.agg [.int .i64 most,.func (.func wf') [] [],.func (.func r) [] []],.slice .any sz' (l.map c')] H (.ret (.tup [])) (swH H id q (s.add (bF g' most l)))):EntOk P f (Ent.effect (j9 wf sz c ok g)):=by
 refine EntOk.effect fun args H K hh=>?_
 unfold j9 at hh
 split at hh
 ·obtain ⟨q,s,l,⟨hW,rfl,rfl,rfl,ha,hl⟩,hK⟩:=hh
  exact ⟨_,_,hK,h _ _ _ _ _ rfl rfl rfl rfl rfl hone hlt hag _ _ _ _ _ _ _ hW ha hl⟩
 ·exact hh.elim
def zy:=eW (.int .i64) pn kc
def v3:=j9 298 1 (.int .i64) pn kc
theorem Dv:EntOk Tryz.prog 298 (Ent.effect zy):=by
 unfold zy
 refine EntOk.effect fun args H K h=>?_
 unfold eW at h
 split at h
 rotate_left
 ·exact h.elim
 rename_i id x
 obtain ⟨q,s,a,⟨hW,rfl,ha,hl⟩,hK⟩:=h
 refine ⟨_,_,hK,?_⟩
 clear hK
 have hF:=hW.facts
 have hcl0:=hW.closed (t:=s.add (kc a))
 have hid:=glq hW.o
 have hq:=glq hW.bu
 refine ACalls.fW ap (tCq fS tNq) Tryz.func298 [] (by rw [az];omega) (T:=aj []) (h:=fun hcl hlt=>?_)
 clear hlt
 have hcl1:=hcl0 hcl
 unfold kc at hl hcl1 ⊢
 have hl1:=hl
 simp only [go_sem,az,aF]
 refine eC (.inr rfl) hW hl1 ?_
 try simp only [go_sem,az,aF]
 exact Z15
theorem pX:EntOk Tryz.prog 197 (Ent.effect v3):=by
 unfold v3
 refine EntOk.effect fun args H K h=>?_
 unfold j9 at h
 split at h
 rotate_left
 ·exact h.elim
 rename_i id most f' r sz' xs
 obtain ⟨q,s,l,⟨hW,rfl,rfl,rfl,ha,hl⟩,hK⟩:=h
 refine ⟨_,_,hK,?_⟩
 clear hK
 have hF:=hW.facts
 have hcl0:=fun t=>hW.closed (t:=t)
 have hid:=glq hW.o
 have hq:=glq hW.bu
 have hll:=fA Gu hl
 obtain ⟨b,sl,sf,sa⟩:=s
 have hne:=cz hid
 have hneq:=cz hq
 have n1:(id=q)=False:=eq_false hW.ne
 have n2:(q=id)=False:=eq_false fun e=>hW.ne e.symm
 have hcs:=ag hW.o
 have hb0:=hW.bu
 have hi0:=hW.o
 have hnn:=hW.ne
 have hlb:b.length≤cG:=bb hl
 rw [br] at hlb
 dsimp only at hcs hb0 hi0 hlb
 have lw2:=cO (l.length:Int) 2
 refine ACalls.fW ap (tCq cb (tCq Dv tNq)) Tryz.func197 [] (by rw [az];omega) (T:=aj [(2,[[],[],[],[],[],[],[],[],[4,7],[],[],[4,7]])]) (h:=fun hcl hlt=>?_)
 clear hlt
 have hcl1:=fun t=>hcl0 t hcl
 have hcm:=fun cs=>@bA H id cs hid
 have hA:=fun X Y=>@bS H id q X Y hnn hid
 have hB:=fun X=>cL (X:=X) hnn hb0
 have eh:=fun X Y Z=>@cM H id q X Y Z
 have hL2:sl=true→(sl||decide ((l.length:Int) > most))=true:=fun h=>by rw [h,Bool.true_or]
 have hL3:sl=false→decide ((l.length:Int) > most)=(sl||decide ((l.length:Int) > most)):=fun h=>by rw [h,Bool.false_or]
 have hst:=fw (H:=H) (id:=id) (q:=q) (b:=b) (sl:=sl) (sf:=sf) (sa:=sa) (n:=l.length) (most:=most)
 have hS1:=hW.next ((⟨b,sl,sf,sa⟩:Enc).add (d7 l.length most))
 have htot:(((⟨b,sl,sf,sa⟩:Enc).add (d7 l.length most)).add (bR kc l))=(⟨b,sl,sf,sa⟩:Enc).add (bF kc most l):=by rw [aR];rfl
 rw [← htot] at hl ⊢
 generalize ((⟨b,sl,sf,sa⟩:Enc).add (d7 l.length most))=s1 at *
 generalize (sl||decide ((l.length:Int) > most))=L at *
 have hlv:∀ n,(AV.slice .any 1 (l.map (.int .i64))).lt n:=fun n=>aZ (fun x=>of_eq_true znf)
 have hlc:=fun n=>@eD n most 298 r
 cases sl
 case' true =>
  rw [hL2 rfl] at hst
  simp only [go_sem,byq,hne,hneq,n1,n2,hcs,hcm,hA,hB,eh,hi0,hb0,aW,ybb]
 case' false =>
  simp only [go_sem,byq,hne,hneq,n1,n2,hcs,hcm,hA,hB,eh,hi0,hb0,aW,ybb,hL3 rfl]
 all_goals
  (repeat with_reducible refine And.intro (by first|assumption|decide|omega|exact ⟨by omega,by omega⟩) ?_)
  refine aD (A:=Nat) (fun k=>[(0,.ptr id 0),(4,.ptr H.nx 0),(33,.slice .any 1 (l.map (.int .i64))),(34,.int .i64 (l.length:Int)),(35,.int .i64 (k:Int))])
   (fun k=>(swH H id q (s1.add (bR kc (l.take k)))).push (.cells (bw most 298 r))) (fun k=>k≤l.length) (fun k=>l.length - k) 0 (by omega) ?_ fun k hk=>?_
  ·rw [yar,bR,d9,hst]
   refine ⟨by simp only [zkq,zkv,zle,zlf,az];omega,by repeat first|exact .refl _|refine .push ?_ _,?_,?_,?_⟩
   ·rw [← hst];exact af (hcl1 _) (hlc _)
   ·simp [ltF,zle,zlf,znn,znf,hlv]
    omega
   ·simp [bk,wk2,wk1,wkM,Fr.get]
  simp only [go_sem]
  refine ak (fun hc=>?_) (fun hc=>?_)
  ·have hk':k<l.length:=by simp at hc;omega
   obtain ⟨x,hx⟩:∃ x,x=l[k]:=⟨_,rfl⟩
   have hg:=dz (f:=.int .i64) (l:=l) (k:=k) (x:=x) (by rw [gQq hk',hx])
   have e5:=Yk5 k
   have hxo:=ha x (by rw [hx];exact gMq hk')
   obtain ⟨es,hlk⟩:=eE (g:=kc) hk' hx hl
   have hSk:=hW.next (s1.add (bR kc (l.take k)))
   simp only [go_sem,iNq,ybb,hg,az,bw,br]
   refine ⟨by omega,?_⟩
   refine oR (c:=.int .i64) hxo (hSk.push _) hlk ?_
   rw [hF.p1,es]
   simp only [go_sem,e5]
   refine ⟨k+1,by omega,by omega,by simp only [zkq,zkv,zle,az];omega,by repeat first|exact .refl _|refine .push ?_ _,af (hcl1 _) (hlc _),?_,?_⟩
   ·simp [ltF,zle,az,znn,znf,hlv]
    omega
   ·simp [bk,wk2,wk1,wkM,Fr.get]
  ·have hk':k=l.length:=by simp at hc;omega
   subst hk'
   rw [List.take_length]
   simp only [go_sem]
   refine ⟨?_,by repeat first|exact .refl _|refine .push ?_ _,hcl1 _,?_⟩
   ·simp [wk,wk2,wk1,ae]
   ·simp [zns,znv]
def dJ:List AV→AHeap→(AV→Prop)→Prop
 |[.int .i64 most],_,K=>K (.agg (bw most 298 299))
 |_,_,_=>False
theorem qT:EntOk Tryz.prog 198 (Ent.pure dJ):=by
 refine Ype fun _ H K h=>?_
 unfold dJ at h
 split at h
 rotate_left
 ·exact h.elim
 refine ⟨_,h,?_⟩
 refine ACalls.fW ap tNq Tryz.func198 [.cell 2 253] (nrq _) (T:=aj []) (h:=fun hcl hlt=>?_)
 clear hlt
 simp only [go_sem,bw]
 exact Z16
def wC:=j9 303 2 (vv) jW jH
theorem AD:EntOk Tryz.prog 217 (Ent.effect wC):=by
 unfold wC
 refine EntOk.effect fun args H K h=>?_
 unfold j9 at h
 split at h
 rotate_left
 ·exact h.elim
 rename_i id most f' r sz' xs
 obtain ⟨q,s,l,⟨hW,rfl,rfl,rfl,ha,hl⟩,hK⟩:=h
 refine ⟨_,_,hK,?_⟩
 clear hK
 have hF:=hW.facts
 have hcl0:=fun t=>hW.closed (t:=t)
 have hid:=glq hW.o
 have hq:=glq hW.bu
 have hll:=fA D4 hl
 obtain ⟨b,sl,sf,sa⟩:=s
 have hne:=cz hid
 have hneq:=cz hq
 have n1:(id=q)=False:=eq_false hW.ne
 have n2:(q=id)=False:=eq_false fun e=>hW.ne e.symm
 have hcs:=ag hW.o
 have hb0:=hW.bu
 have hi0:=hW.o
 have hnn:=hW.ne
 have hlb:b.length≤cG:=bb hl
 rw [br] at hlb
 dsimp only at hcs hb0 hi0 hlb
 have lw2:=cO (l.length:Int) 2
 refine ACalls.fW ap (tCq cb (tCq uu tNq)) Tryz.func217 [] (by rw [az];omega) (T:=aj [(2,[[],[],[],[],[],[],[],[],[4,7],[],[],[4,7]])]) (h:=fun hcl hlt=>?_)
 clear hlt
 have hcl1:=fun t=>hcl0 t hcl
 have hcm:=fun cs=>@bA H id cs hid
 have hA:=fun X Y=>@bS H id q X Y hnn hid
 have hB:=fun X=>cL (X:=X) hnn hb0
 have eh:=fun X Y Z=>@cM H id q X Y Z
 have hL2:sl=true→(sl||decide ((l.length:Int) > most))=true:=fun h=>by rw [h,Bool.true_or]
 have hL3:sl=false→decide ((l.length:Int) > most)=(sl||decide ((l.length:Int) > most)):=fun h=>by rw [h,Bool.false_or]
 have hst:=fw (H:=H) (id:=id) (q:=q) (b:=b) (sl:=sl) (sf:=sf) (sa:=sa) (n:=l.length) (most:=most)
 have hS1:=hW.next ((⟨b,sl,sf,sa⟩:Enc).add (d7 l.length most))
 have htot:(((⟨b,sl,sf,sa⟩:Enc).add (d7 l.length most)).add (bR jH l))=(⟨b,sl,sf,sa⟩:Enc).add (bF jH most l):=by rw [aR];rfl
 rw [← htot] at hl ⊢
 generalize ((⟨b,sl,sf,sa⟩:Enc).add (d7 l.length most))=s1 at *
 generalize (sl||decide ((l.length:Int) > most))=L at *
 have hlv:∀ n,(AV.slice .any 2 (l.map (vv))).lt n:=fun n=>aZ (fun x=>LO)
 have hlc:=fun n=>@eD n most 303 r
 cases sl
 case' true =>
  rw [hL2 rfl] at hst
  simp only [go_sem,byq,hne,hneq,n1,n2,hcs,hcm,hA,hB,eh,hi0,hb0,aW,ybb]
 case' false =>
  simp only [go_sem,byq,hne,hneq,n1,n2,hcs,hcm,hA,hB,eh,hi0,hb0,aW,ybb,hL3 rfl]
 all_goals
  (repeat with_reducible refine And.intro (by first|assumption|decide|omega|exact ⟨by omega,by omega⟩) ?_)
  refine aD (A:=Nat) (fun k=>[(0,.ptr id 0),(4,.ptr H.nx 0),(33,.slice .any 2 (l.map (vv))),(34,.int .i64 (l.length:Int)),(35,.int .i64 (k:Int))])
   (fun k=>(swH H id q (s1.add (bR jH (l.take k)))).push (.cells (bw most 303 r))) (fun k=>k≤l.length) (fun k=>l.length - k) 0 (by omega) ?_ fun k hk=>?_
  ·rw [yar,bR,d9,hst]
   refine ⟨by simp only [zkq,zkv,zle,zlf,az];omega,by repeat first|exact .refl _|refine .push ?_ _,?_,?_,?_⟩
   ·rw [← hst];exact af (hcl1 _) (hlc _)
   ·simp [ltF,zle,zlf,znn,znf,hlv]
    omega
   ·simp [bk,wk2,wk1,wkM,Fr.get]
  simp only [go_sem]
  refine ak (fun hc=>?_) (fun hc=>?_)
  ·have hk':k<l.length:=by simp at hc;omega
   obtain ⟨x,hx⟩:∃ x,x=l[k]:=⟨_,rfl⟩
   have hg:=dz (f:=vv) (l:=l) (k:=k) (x:=x) (by rw [gQq hk',hx])
   have e5:=Yk5 k
   have hxo:=ha x (by rw [hx];exact gMq hk')
   obtain ⟨es,hlk⟩:=eE (g:=jH) hk' hx hl
   have hSk:=hW.next (s1.add (bR jH (l.take k)))
   simp only [go_sem,iNq,ybb,hg,az,vv,bw,br]
   refine ⟨by omega,?_⟩
   refine zI hxo (hSk.push2 _ _) hlk ?_
   rw [hF.p2,es]
   simp only [go_sem,e5]
   refine ⟨k+1,by omega,by omega,by simp only [zkq,zkv,zle,az];omega,by repeat first|exact .refl _|refine .push ?_ _,af (hcl1 _) (hlc _),?_,?_⟩
   ·simp [ltF,zle,az,znn,znf,hlv]
    omega
   ·simp [bk,wk2,wk1,wkM,Fr.get]
  ·have hk':k=l.length:=by simp at hc;omega
   subst hk'
   rw [List.take_length]
   simp only [go_sem]
   refine ⟨?_,by repeat first|exact .refl _|refine .push ?_ _,hcl1 _,?_⟩
   ·simp [wk,wk2,wk1,ae]
   ·simp [zns,znv]
def iq:List AV→AHeap→(AV→Prop)→Prop
 |[],_,K=>K (.agg (bw 4 303 305))
 |_,_,_=>False
theorem Ff:EntOk Tryz.prog 218 (Ent.pure iq):=by
 refine Ype fun _ H K h=>?_
 unfold iq at h
 split at h
 rotate_left
 ·exact h.elim
 refine ⟨_,h,?_⟩
 refine ACalls.fW ap tNq Tryz.func218 [.cell 0 287] (nrq _) (T:=aj []) (h:=fun hcl hlt=>?_)
 clear hlt
 simp only [go_sem,bw]
 exact Z16
def xd:=j9 227 1 (.bool) pn jw
theorem BS:EntOk Tryz.prog 313 (Ent.effect xd):=by
 unfold xd
 refine EntOk.effect fun args H K h=>?_
 unfold j9 at h
 split at h
 rotate_left
 ·exact h.elim
 rename_i id most f' r sz' xs
 obtain ⟨q,s,l,⟨hW,rfl,rfl,rfl,ha,hl⟩,hK⟩:=h
 refine ⟨_,_,hK,?_⟩
 clear hK
 have hF:=hW.facts
 have hcl0:=fun t=>hW.closed (t:=t)
 have hid:=glq hW.o
 have hq:=glq hW.bu
 have hll:=fA DP hl
 obtain ⟨b,sl,sf,sa⟩:=s
 have hne:=cz hid
 have hneq:=cz hq
 have n1:(id=q)=False:=eq_false hW.ne
 have n2:(q=id)=False:=eq_false fun e=>hW.ne e.symm
 have hcs:=ag hW.o
 have hb0:=hW.bu
 have hi0:=hW.o
 have hnn:=hW.ne
 have hlb:b.length≤cG:=bb hl
 rw [br] at hlb
 dsimp only at hcs hb0 hi0 hlb
 have lw2:=cO (l.length:Int) 2
 refine ACalls.fW ap (tCq cb (tCq uO tNq)) Tryz.func313 [] (by rw [az];omega) (T:=aj [(2,[[],[],[],[],[],[],[],[],[4,7],[],[],[4,7]])]) (h:=fun hcl hlt=>?_)
 clear hlt
 have hcl1:=fun t=>hcl0 t hcl
 have hcm:=fun cs=>@bA H id cs hid
 have hA:=fun X Y=>@bS H id q X Y hnn hid
 have hB:=fun X=>cL (X:=X) hnn hb0
 have eh:=fun X Y Z=>@cM H id q X Y Z
 have hL2:sl=true→(sl||decide ((l.length:Int) > most))=true:=fun h=>by rw [h,Bool.true_or]
 have hL3:sl=false→decide ((l.length:Int) > most)=(sl||decide ((l.length:Int) > most)):=fun h=>by rw [h,Bool.false_or]
 have hst:=fw (H:=H) (id:=id) (q:=q) (b:=b) (sl:=sl) (sf:=sf) (sa:=sa) (n:=l.length) (most:=most)
 have hS1:=hW.next ((⟨b,sl,sf,sa⟩:Enc).add (d7 l.length most))
 have htot:(((⟨b,sl,sf,sa⟩:Enc).add (d7 l.length most)).add (bR jw l))=(⟨b,sl,sf,sa⟩:Enc).add (bF jw most l):=by rw [aR];rfl
 rw [← htot] at hl ⊢
 generalize ((⟨b,sl,sf,sa⟩:Enc).add (d7 l.length most))=s1 at *
 generalize (sl||decide ((l.length:Int) > most))=L at *
 have hlv:∀ n,(AV.slice .any 1 (l.map (.bool))).lt n:=fun n=>aZ (fun x=>of_eq_true zng)
 have hlc:=fun n=>@eD n most 227 r
 cases sl
 case' true =>
  rw [hL2 rfl] at hst
  simp only [go_sem,byq,hne,hneq,n1,n2,hcs,hcm,hA,hB,eh,hi0,hb0,aW,ybb]
 case' false =>
  simp only [go_sem,byq,hne,hneq,n1,n2,hcs,hcm,hA,hB,eh,hi0,hb0,aW,ybb,hL3 rfl]
 all_goals
  (repeat with_reducible refine And.intro (by first|assumption|decide|omega|exact ⟨by omega,by omega⟩) ?_)
  refine aD (A:=Nat) (fun k=>[(0,.ptr id 0),(4,.ptr H.nx 0),(33,.slice .any 1 (l.map (.bool))),(34,.int .i64 (l.length:Int)),(35,.int .i64 (k:Int))])
   (fun k=>(swH H id q (s1.add (bR jw (l.take k)))).push (.cells (bw most 227 r))) (fun k=>k≤l.length) (fun k=>l.length - k) 0 (by omega) ?_ fun k hk=>?_
  ·rw [yar,bR,d9,hst]
   refine ⟨by simp only [zkq,zkv,zle,zlf,az];omega,by repeat first|exact .refl _|refine .push ?_ _,?_,?_,?_⟩
   ·rw [← hst];exact af (hcl1 _) (hlc _)
   ·simp [ltF,zle,zlf,znn,znf,hlv]
    omega
   ·simp [bk,wk2,wk1,wkM,Fr.get]
  simp only [go_sem]
  refine ak (fun hc=>?_) (fun hc=>?_)
  ·have hk':k<l.length:=by simp at hc;omega
   obtain ⟨x,hx⟩:∃ x,x=l[k]:=⟨_,rfl⟩
   have hg:=dz (f:=.bool) (l:=l) (k:=k) (x:=x) (by rw [gQq hk',hx])
   have e5:=Yk5 k
   have hxo:=ha x (by rw [hx];exact gMq hk')
   obtain ⟨es,hlk⟩:=eE (g:=jw) hk' hx hl
   have hSk:=hW.next (s1.add (bR jw (l.take k)))
   simp only [go_sem,iNq,ybb,hg,az,bw,br]
   refine ⟨by omega,?_⟩
   refine zR (hSk.push _) hlk ?_
   rw [hF.p1,es]
   simp only [go_sem,e5]
   refine ⟨k+1,by omega,by omega,by simp only [zkq,zkv,zle,az];omega,by repeat first|exact .refl _|refine .push ?_ _,af (hcl1 _) (hlc _),?_,?_⟩
   ·simp [ltF,zle,az,znn,znf,hlv]
    omega
   ·simp [bk,wk2,wk1,wkM,Fr.get]
  ·have hk':k=l.length:=by simp at hc;omega
   subst hk'
   rw [List.take_length]
   simp only [go_sem]
   refine ⟨?_,by repeat first|exact .refl _|refine .push ?_ _,hcl1 _,?_⟩
   ·simp [wk,wk2,wk1,ae]
   ·simp [zns,znv]
def ls:List AV→AHeap→(AV→Prop)→Prop
 |[],_,K=>K (.agg (bw 4 227 230))
 |_,_,_=>False
theorem DD:EntOk Tryz.prog 314 (Ent.pure ls):=by
 refine Ype fun _ H K h=>?_
 unfold ls at h
 split at h
 rotate_left
 ·exact h.elim
 refine ⟨_,h,?_⟩
 refine ACalls.fW ap tNq Tryz.func314 [.cell 0 333] (nrq _) (T:=aj []) (h:=fun hcl hlt=>?_)
 clear hlt
 simp only [go_sem,bw]
 exact Z16
def y5:=eW (aX) vf fp
def G3:=j9 191 3 (aX) vf fp
theorem EH:EntOk Tryz.prog 191 (Ent.effect y5):=by
 unfold y5
 refine EntOk.effect fun args H K h=>?_
 unfold eW at h
 split at h
 rotate_left
 ·exact h.elim
 rename_i id x
 obtain ⟨q,s,a,⟨hW,rfl,ha,hl⟩,hK⟩:=h
 refine ⟨_,_,hK,?_⟩
 clear hK
 have hF:=hW.facts
 have hcl0:=hW.closed (t:=s.add (fp a))
 have hid:=glq hW.o
 have hq:=glq hW.bu
 refine ACalls.fW ap (tCq fS (tCq lD tNq)) Tryz.func191 [] (by rw [az];omega) (T:=aj []) (h:=fun hcl hlt=>?_)
 clear hlt
 have hcl1:=hcl0 hcl
 unfold fp at hl hcl1 ⊢
 rw [← aR,← aR] at hl hcl1 ⊢
 have hl3:=hl
 have hl2:=bb hl3
 have hl1:=bb hl2
 simp only [go_sem,aX,az,aF]
 refine eC (.inr rfl) (hW.push _) hl1 ?_
 rw [hF.p0]
 simp only [go_sem,aX,az,aF]
 refine oq (ha) ((hW.next _).push _) hl2 ?_
 rw [hF.p1]
 simp only [go_sem,aX,az,aF]
 refine eC (.inl rfl) ((hW.next _).push _) hl3 ?_
 rw [hF.p1]
 try simp only [go_sem,aX,az,aF]
 exact Z15
theorem At:EntOk Tryz.prog 59 (Ent.effect G3):=iZ Cd (fun _ x=>yz x) (fun _=>⟨_,rfl,rfl,rfl⟩) fun wf sz c ok g ew es ec eo eg hone hlt' hag id most r q s l H hW ha hl=>by
 refine ACalls.fW ap (tCq cb (tCq EH tNq)) Tryz.func59 [] (by rw [az];omega) (T:=aj [(2,[[],[],[],[],[],[],[],[],[4,7],[],[],[4,7]])]) (h:=fun hcl hlt=>?_)
 have hF:=hW.facts
 have hcl1:=fun t=>hW.closed (t:=t) hcl
 have hid:=glq hW.o
 have hq:=glq hW.bu
 have hll:=fA hone hl
 obtain ⟨b,sl,sf,sa⟩:=s
 have hne:=cz hid
 have hneq:=cz hq
 have n1:(id=q)=False:=eq_false hW.ne
 have n2:(q=id)=False:=eq_false fun e=>hW.ne e.symm
 have hcs:=ag hW.o
 have hb0:=hW.bu
 have hi0:=hW.o
 have hnn:=hW.ne
 have hlb:b.length≤cG:=bb hl
 rw [br] at hlb
 dsimp only at hcs hb0 hi0 hlb
 have lw2:=cO (l.length:Int) 2
 clear hlt
 have hcm:=fun cs=>@bA H id cs hid
 have hA:=fun X Y=>@bS H id q X Y hnn hid
 have hB:=fun X=>cL (X:=X) hnn hb0
 have eh:=fun X Y Z=>@cM H id q X Y Z
 have hL2:sl=true→(sl||decide ((l.length:Int) > most))=true:=fun h=>by rw [h,Bool.true_or]
 have hL3:sl=false→decide ((l.length:Int) > most)=(sl||decide ((l.length:Int) > most)):=fun h=>by rw [h,Bool.false_or]
 have hst:=fw (H:=H) (id:=id) (q:=q) (b:=b) (sl:=sl) (sf:=sf) (sa:=sa) (n:=l.length) (most:=most)
 have hS1:=hW.next ((⟨b,sl,sf,sa⟩:Enc).add (d7 l.length most))
 have htot:(((⟨b,sl,sf,sa⟩:Enc).add (d7 l.length most)).add (bR g l))=(⟨b,sl,sf,sa⟩:Enc).add (bF g most l):=by rw [aR];rfl
 rw [← htot] at hl ⊢
 generalize ((⟨b,sl,sf,sa⟩:Enc).add (d7 l.length most))=s1 at *
 generalize (sl||decide ((l.length:Int) > most))=L at *
 have hlv:∀ n,(AV.slice .any sz (l.map c)).lt n:=fun n=>aZ (hlt' n)
 have hlc:=fun n=>@eD n most wf r
 cases sl
 case' true =>
  rw [hL2 rfl] at hst
  simp only [go_sem,byq,hne,hneq,n1,n2,hcs,hcm,hA,hB,eh,hi0,hb0,aW,ybb]
 case' false =>
  simp only [go_sem,byq,hne,hneq,n1,n2,hcs,hcm,hA,hB,eh,hi0,hb0,aW,ybb,hL3 rfl]
 all_goals
  (repeat with_reducible refine And.intro (by first|assumption|decide|omega|exact ⟨by omega,by omega⟩) ?_)
  refine aD (A:=Nat) (fun k=>[(0,.ptr id 0),(4,.ptr H.nx 0),(33,.slice .any sz (l.map c)),(34,.int .i64 (l.length:Int)),(35,.int .i64 (k:Int))])
   (fun k=>(swH H id q (s1.add (bR g (l.take k)))).push (.cells (bw most wf r))) (fun k=>k≤l.length) (fun k=>l.length - k) 0 (by omega) ?_ fun k hk=>?_
  ·rw [yar,bR,d9,hst]
   refine ⟨by simp only [zkq,zkv,zle,zlf,az];omega,by repeat first|exact .refl _|refine .push ?_ _,?_,?_,?_⟩
   ·rw [← hst];exact af (hcl1 _) (hlc _)
   ·simp [ltF,zle,zlf,znn,znf,hlv]
    omega
   ·simp [bk,wk2,wk1,wkM,Fr.get]
  simp only [go_sem]
  refine ak (fun hc=>?_) (fun hc=>?_)
  ·have hk':k<l.length:=by simp at hc;omega
   obtain ⟨x,hx⟩:∃ x,x=l[k]:=⟨_,rfl⟩
   have hg:=dz (f:=c) (l:=l) (k:=k) (x:=x) (by rw [gQq hk',hx])
   have e5:=Yk5 k
   have hxo:=ha x (by rw [hx];exact gMq hk')
   obtain ⟨es',hlk⟩:=eE (g:=g) hk' hx hl
   have hSk:=hW.next (s1.add (bR g (l.take k)))
   obtain ⟨cs,hcc,hcl3,hall⟩:=hag x
   have hsp:∀ zs:List AV,zs.length=sz→splice zs 0 cs=cs:=fun zs hz=>dm (hz.trans hcl3.symm)
   have hts:List.take sz cs=cs:=ybc (by omega)
   rw [hcc] at hg
   clear hag
   subst ew es ec eo eg
   simp only [go_sem,iNq,ybb,hg,hcl3,hts,hall,hsp,if_true,yaz,yba,az,bw,br]
   refine ⟨by omega,?_⟩
   rw [← hcc]
   refine oR hxo (hSk.push2 _ _) hlk ?_
   rw [hF.p2,es']
   simp only [go_sem,e5]
   refine ⟨k+1,by omega,by omega,by simp only [zkq,zkv,zle,az];omega,by repeat first|exact .refl _|refine .push ?_ _,af (hcl1 _) (hlc _),?_,?_⟩
   ·simp [ltF,zle,az,znn,znf,hlv]
    omega
   ·simp [bk,wk2,wk1,wkM,Fr.get]
  ·have hk':k=l.length:=by simp at hc;omega
   subst hk'
   rw [List.take_length]
   simp only [go_sem]
   refine ⟨?_,by repeat first|exact .refl _|refine .push ?_ _,hcl1 _,?_⟩
   ·simp [wk,wk2,wk1,ae]
   ·simp [zns,znv]
def gY:List AV→AHeap→(AV→Prop)→Prop
 |[],_,K=>K (.agg (bw 32 191 193))
 |_,_,_=>False
theorem Er:EntOk Tryz.prog 60 (Ent.pure gY):=by
 refine Ype fun _ H K h=>?_
 unfold gY at h
 split at h
 rotate_left
 ·exact h.elim
 refine ⟨_,h,?_⟩
 refine ACalls.fW ap tNq Tryz.func60 [.cell 0 128] (nrq _) (T:=aj []) (h:=fun hcl hlt=>?_)
 clear hlt
 simp only [go_sem,bw]
 exact Z16
def Aj:=eW (cI) nK mh
def Fx:=j9 302 5 (cI) nK mh
theorem EJ:EntOk Tryz.prog 302 (Ent.effect Aj):=by
 unfold Aj
 refine EntOk.effect fun args H K h=>?_
 unfold eW at h
 split at h
 rotate_left
 ·exact h.elim
 rename_i id x
 obtain ⟨q,s,a,⟨hW,rfl,ha,hl⟩,hK⟩:=h
 refine ⟨_,_,hK,?_⟩
 clear hK
 have hF:=hW.facts
 have hcl0:=hW.closed (t:=s.add (mh a))
 have hid:=glq hW.o
 have hq:=glq hW.bu
 refine ACalls.fW ap (tCq uu (tCq fS tNq)) Tryz.func302 [] (by rw [az];omega) (T:=aj []) (h:=fun hcl hlt=>?_)
 clear hlt
 have hcl1:=hcl0 hcl
 unfold mh at hl hcl1 ⊢
 rw [← aR,← aR] at hl hcl1 ⊢
 have hl3:=hl
 have hl2:=bb hl3
 have hl1:=bb hl2
 simp only [go_sem,cI,vc,az,aF]
 refine zI (ha.1) (hW.push _) hl1 ?_
 rw [hF.p0]
 simp only [go_sem,cI,vc,az,aF]
 refine zI (ha.2) ((hW.next _).push _) hl2 ?_
 rw [hF.p1]
 simp only [go_sem,cI,vc,az,aF]
 refine eC (.inr rfl) ((hW.next _).push _) hl3 ?_
 rw [hF.p1]
 try simp only [go_sem,cI,vc,az,aF]
 exact Z15
theorem BI:EntOk Tryz.prog 202 (Ent.effect Fx):=iZ GK (fun _ x=>tV x) (fun _=>⟨_,rfl,rfl,rfl⟩) fun wf sz c ok g ew es ec eo eg hone hlt' hag id most r q s l H hW ha hl=>by
 refine ACalls.fW ap (tCq cb (tCq EJ tNq)) Tryz.func202 [] (by rw [az];omega) (T:=aj [(2,[[],[],[],[],[],[],[],[],[4,7],[],[],[4,7]])]) (h:=fun hcl hlt=>?_)
 have hF:=hW.facts
 have hcl1:=fun t=>hW.closed (t:=t) hcl
 have hid:=glq hW.o
 have hq:=glq hW.bu
 have hll:=fA hone hl
 obtain ⟨b,sl,sf,sa⟩:=s
 have hne:=cz hid
 have hneq:=cz hq
 have n1:(id=q)=False:=eq_false hW.ne
 have n2:(q=id)=False:=eq_false fun e=>hW.ne e.symm
 have hcs:=ag hW.o
 have hb0:=hW.bu
 have hi0:=hW.o
 have hnn:=hW.ne
 have hlb:b.length≤cG:=bb hl
 rw [br] at hlb
 dsimp only at hcs hb0 hi0 hlb
 have lw2:=cO (l.length:Int) 2
 clear hlt
 have hcm:=fun cs=>@bA H id cs hid
 have hA:=fun X Y=>@bS H id q X Y hnn hid
 have hB:=fun X=>cL (X:=X) hnn hb0
 have eh:=fun X Y Z=>@cM H id q X Y Z
 have hL2:sl=true→(sl||decide ((l.length:Int) > most))=true:=fun h=>by rw [h,Bool.true_or]
 have hL3:sl=false→decide ((l.length:Int) > most)=(sl||decide ((l.length:Int) > most)):=fun h=>by rw [h,Bool.false_or]
 have hst:=fw (H:=H) (id:=id) (q:=q) (b:=b) (sl:=sl) (sf:=sf) (sa:=sa) (n:=l.length) (most:=most)
 have hS1:=hW.next ((⟨b,sl,sf,sa⟩:Enc).add (d7 l.length most))
 have htot:(((⟨b,sl,sf,sa⟩:Enc).add (d7 l.length most)).add (bR g l))=(⟨b,sl,sf,sa⟩:Enc).add (bF g most l):=by rw [aR];rfl
 rw [← htot] at hl ⊢
 generalize ((⟨b,sl,sf,sa⟩:Enc).add (d7 l.length most))=s1 at *
 generalize (sl||decide ((l.length:Int) > most))=L at *
 have hlv:∀ n,(AV.slice .any sz (l.map c)).lt n:=fun n=>aZ (hlt' n)
 have hlc:=fun n=>@eD n most wf r
 cases sl
 case' true =>
  rw [hL2 rfl] at hst
  simp only [go_sem,byq,hne,hneq,n1,n2,hcs,hcm,hA,hB,eh,hi0,hb0,aW,ybb]
 case' false =>
  simp only [go_sem,byq,hne,hneq,n1,n2,hcs,hcm,hA,hB,eh,hi0,hb0,aW,ybb,hL3 rfl]
 all_goals
  (repeat with_reducible refine And.intro (by first|assumption|decide|omega|exact ⟨by omega,by omega⟩) ?_)
  refine aD (A:=Nat) (fun k=>[(0,.ptr id 0),(4,.ptr H.nx 0),(33,.slice .any sz (l.map c)),(34,.int .i64 (l.length:Int)),(35,.int .i64 (k:Int))])
   (fun k=>(swH H id q (s1.add (bR g (l.take k)))).push (.cells (bw most wf r))) (fun k=>k≤l.length) (fun k=>l.length - k) 0 (by omega) ?_ fun k hk=>?_
  ·rw [yar,bR,d9,hst]
   refine ⟨by simp only [zkq,zkv,zle,zlf,az];omega,by repeat first|exact .refl _|refine .push ?_ _,?_,?_,?_⟩
   ·rw [← hst];exact af (hcl1 _) (hlc _)
   ·simp [ltF,zle,zlf,znn,znf,hlv]
    omega
   ·simp [bk,wk2,wk1,wkM,Fr.get]
  simp only [go_sem]
  refine ak (fun hc=>?_) (fun hc=>?_)
  ·have hk':k<l.length:=by simp at hc;omega
   obtain ⟨x,hx⟩:∃ x,x=l[k]:=⟨_,rfl⟩
   have hg:=dz (f:=c) (l:=l) (k:=k) (x:=x) (by rw [gQq hk',hx])
   have e5:=Yk5 k
   have hxo:=ha x (by rw [hx];exact gMq hk')
   obtain ⟨es',hlk⟩:=eE (g:=g) hk' hx hl
   have hSk:=hW.next (s1.add (bR g (l.take k)))
   obtain ⟨cs,hcc,hcl3,hall⟩:=hag x
   have hsp:∀ zs:List AV,zs.length=sz→splice zs 0 cs=cs:=fun zs hz=>dm (hz.trans hcl3.symm)
   have hts:List.take sz cs=cs:=ybc (by omega)
   rw [hcc] at hg
   clear hag
   subst ew es ec eo eg
   simp only [go_sem,iNq,ybb,hg,hcl3,hts,hall,hsp,if_true,yaz,yba,az,bw,br]
   refine ⟨by omega,?_⟩
   rw [← hcc]
   refine oR hxo (hSk.push2 _ _) hlk ?_
   rw [hF.p2,es']
   simp only [go_sem,e5]
   refine ⟨k+1,by omega,by omega,by simp only [zkq,zkv,zle,az];omega,by repeat first|exact .refl _|refine .push ?_ _,af (hcl1 _) (hlc _),?_,?_⟩
   ·simp [ltF,zle,az,znn,znf,hlv]
    omega
   ·simp [bk,wk2,wk1,wkM,Fr.get]
  ·have hk':k=l.length:=by simp at hc;omega
   subst hk'
   rw [List.take_length]
   simp only [go_sem]
   refine ⟨?_,by repeat first|exact .refl _|refine .push ?_ _,hcl1 _,?_⟩
   ·simp [wk,wk2,wk1,ae]
   ·simp [zns,znv]
def km:List AV→AHeap→(AV→Prop)→Prop
 |[],_,K=>K (.agg (bw 6 302 304))
 |_,_,_=>False
theorem Ef:EntOk Tryz.prog 203 (Ent.pure km):=by
 refine Ype fun _ H K h=>?_
 unfold km at h
 split at h
 rotate_left
 ·exact h.elim
 refine ⟨_,h,?_⟩
 refine ACalls.fW ap tNq Tryz.func203 [.cell 0 260] (nrq _) (T:=aj []) (h:=fun hcl hlt=>?_)
 clear hlt
 simp only [go_sem,bw]
 exact Z16
theorem Bx:ti Tryz.prog 267=some ⟨.struct [(0,3,false),(1,264,false),(2,265,false)],3,24,.agg [.int .i64 0,.nilf,.nilf]⟩:=by kernel_rfl
theorem H4:ti Tryz.prog 264=some ⟨.func,1,8,.nilf⟩:=by kernel_rfl
theorem DK:ti Tryz.prog 265=some ⟨.func,1,8,.nilf⟩:=by kernel_rfl
theorem A6:ti Tryz.prog 273=some ⟨.struct [(0,3,false),(1,270,false),(2,271,false)],3,24,.agg [.int .i64 0,.nilf,.nilf]⟩:=by kernel_rfl
theorem HG:ti Tryz.prog 270=some ⟨.func,1,8,.nilf⟩:=by kernel_rfl
theorem GN:ti Tryz.prog 271=some ⟨.func,1,8,.nilf⟩:=by kernel_rfl
theorem Cl:ti Tryz.prog 281=some ⟨.struct [(0,3,false),(1,278,false),(2,279,false)],3,24,.agg [.int .i64 0,.nilf,.nilf]⟩:=by kernel_rfl
theorem Dq:ti Tryz.prog 278=some ⟨.func,1,8,.nilf⟩:=by kernel_rfl
theorem Id:ti Tryz.prog 279=some ⟨.func,1,8,.nilf⟩:=by kernel_rfl
theorem B2:ti Tryz.prog 158=some ⟨.struct [(0,3,false),(1,155,false),(2,156,false)],3,24,.agg [.int .i64 0,.nilf,.nilf]⟩:=by kernel_rfl
theorem HD:ti Tryz.prog 155=some ⟨.func,1,8,.nilf⟩:=by kernel_rfl
theorem Dt:ti Tryz.prog 156=some ⟨.func,1,8,.nilf⟩:=by kernel_rfl
theorem BO:ti Tryz.prog 170=some ⟨.struct [(0,3,false),(1,167,false),(2,168,false)],3,24,.agg [.int .i64 0,.nilf,.nilf]⟩:=by kernel_rfl
theorem Hn:ti Tryz.prog 167=some ⟨.func,1,8,.nilf⟩:=by kernel_rfl
theorem CT:ti Tryz.prog 168=some ⟨.func,1,8,.nilf⟩:=by kernel_rfl
attribute [go_sem] Bx H4 DK A6 HG GN Cl Dq Id B2 HD Dt BO Hn CT
def zn:=eW (bv) uS jZ
def CL:=j9 306 2 (bv) uS jZ
theorem Dx:EntOk Tryz.prog 306 (Ent.effect zn):=by
 unfold zn
 refine EntOk.effect fun args H K h=>?_
 unfold eW at h
 split at h
 rotate_left
 ·exact h.elim
 rename_i id x
 obtain ⟨q,s,a,⟨hW,rfl,ha,hl⟩,hK⟩:=h
 refine ⟨_,_,hK,?_⟩
 clear hK
 have hF:=hW.facts
 have hcl0:=hW.closed (t:=s.add (jZ a))
 have hid:=glq hW.o
 have hq:=glq hW.bu
 refine ACalls.fW ap (tCq lD (tCq fS tNq)) Tryz.func306 [] (by rw [az];omega) (T:=aj []) (h:=fun hcl hlt=>?_)
 clear hlt
 have hcl1:=hcl0 hcl
 unfold jZ at hl hcl1 ⊢
 rw [← aR] at hl hcl1 ⊢
 have hl2:=hl
 have hl1:=bb hl2
 simp only [go_sem,bv,az,aF]
 refine oq (ha) (hW.push _) hl1 ?_
 rw [hF.p0]
 simp only [go_sem,bv,az,aF]
 refine eC (.inl rfl) ((hW.next _).push _) hl2 ?_
 rw [hF.p1]
 try simp only [go_sem,bv,az,aF]
 exact Z15
theorem AC:EntOk Tryz.prog 207 (Ent.effect CL):=iZ Bs (fun _ x=>sO x) (fun _=>⟨_,rfl,rfl,rfl⟩) fun wf sz c ok g ew es ec eo eg hone hlt' hag id most r q s l H hW ha hl=>by
 refine ACalls.fW ap (tCq cb (tCq Dx tNq)) Tryz.func207 [] (by rw [az];omega) (T:=aj [(2,[[],[],[],[],[],[],[],[],[4,7],[],[],[4,7]])]) (h:=fun hcl hlt=>?_)
 have hF:=hW.facts
 have hcl1:=fun t=>hW.closed (t:=t) hcl
 have hid:=glq hW.o
 have hq:=glq hW.bu
 have hll:=fA hone hl
 obtain ⟨b,sl,sf,sa⟩:=s
 have hne:=cz hid
 have hneq:=cz hq
 have n1:(id=q)=False:=eq_false hW.ne
 have n2:(q=id)=False:=eq_false fun e=>hW.ne e.symm
 have hcs:=ag hW.o
 have hb0:=hW.bu
 have hi0:=hW.o
 have hnn:=hW.ne
 have hlb:b.length≤cG:=bb hl
 rw [br] at hlb
 dsimp only at hcs hb0 hi0 hlb
 have lw2:=cO (l.length:Int) 2
 clear hlt
 have hcm:=fun cs=>@bA H id cs hid
 have hA:=fun X Y=>@bS H id q X Y hnn hid
 have hB:=fun X=>cL (X:=X) hnn hb0
 have eh:=fun X Y Z=>@cM H id q X Y Z
 have hL2:sl=true→(sl||decide ((l.length:Int) > most))=true:=fun h=>by rw [h,Bool.true_or]
 have hL3:sl=false→decide ((l.length:Int) > most)=(sl||decide ((l.length:Int) > most)):=fun h=>by rw [h,Bool.false_or]
 have hst:=fw (H:=H) (id:=id) (q:=q) (b:=b) (sl:=sl) (sf:=sf) (sa:=sa) (n:=l.length) (most:=most)
 have hS1:=hW.next ((⟨b,sl,sf,sa⟩:Enc).add (d7 l.length most))
 have htot:(((⟨b,sl,sf,sa⟩:Enc).add (d7 l.length most)).add (bR g l))=(⟨b,sl,sf,sa⟩:Enc).add (bF g most l):=by rw [aR];rfl
 rw [← htot] at hl ⊢
 generalize ((⟨b,sl,sf,sa⟩:Enc).add (d7 l.length most))=s1 at *
 generalize (sl||decide ((l.length:Int) > most))=L at *
 have hlv:∀ n,(AV.slice .any sz (l.map c)).lt n:=fun n=>aZ (hlt' n)
 have hlc:=fun n=>@eD n most wf r
 cases sl
 case' true =>
  rw [hL2 rfl] at hst
  simp only [go_sem,byq,hne,hneq,n1,n2,hcs,hcm,hA,hB,eh,hi0,hb0,aW,ybb]
 case' false =>
  simp only [go_sem,byq,hne,hneq,n1,n2,hcs,hcm,hA,hB,eh,hi0,hb0,aW,ybb,hL3 rfl]
 all_goals
  (repeat with_reducible refine And.intro (by first|assumption|decide|omega|exact ⟨by omega,by omega⟩) ?_)
  refine aD (A:=Nat) (fun k=>[(0,.ptr id 0),(4,.ptr H.nx 0),(33,.slice .any sz (l.map c)),(34,.int .i64 (l.length:Int)),(35,.int .i64 (k:Int))])
   (fun k=>(swH H id q (s1.add (bR g (l.take k)))).push (.cells (bw most wf r))) (fun k=>k≤l.length) (fun k=>l.length - k) 0 (by omega) ?_ fun k hk=>?_
  ·rw [yar,bR,d9,hst]
   refine ⟨by simp only [zkq,zkv,zle,zlf,az];omega,by repeat first|exact .refl _|refine .push ?_ _,?_,?_,?_⟩
   ·rw [← hst];exact af (hcl1 _) (hlc _)
   ·simp [ltF,zle,zlf,znn,znf,hlv]
    omega
   ·simp [bk,wk2,wk1,wkM,Fr.get]
  simp only [go_sem]
  refine ak (fun hc=>?_) (fun hc=>?_)
  ·have hk':k<l.length:=by simp at hc;omega
   obtain ⟨x,hx⟩:∃ x,x=l[k]:=⟨_,rfl⟩
   have hg:=dz (f:=c) (l:=l) (k:=k) (x:=x) (by rw [gQq hk',hx])
   have e5:=Yk5 k
   have hxo:=ha x (by rw [hx];exact gMq hk')
   obtain ⟨es',hlk⟩:=eE (g:=g) hk' hx hl
   have hSk:=hW.next (s1.add (bR g (l.take k)))
   obtain ⟨cs,hcc,hcl3,hall⟩:=hag x
   have hsp:∀ zs:List AV,zs.length=sz→splice zs 0 cs=cs:=fun zs hz=>dm (hz.trans hcl3.symm)
   have hts:List.take sz cs=cs:=ybc (by omega)
   rw [hcc] at hg
   clear hag
   subst ew es ec eo eg
   simp only [go_sem,iNq,ybb,hg,hcl3,hts,hall,hsp,if_true,yaz,yba,az,bw,br]
   refine ⟨by omega,?_⟩
   rw [← hcc]
   refine oR hxo (hSk.push2 _ _) hlk ?_
   rw [hF.p2,es']
   simp only [go_sem,e5]
   refine ⟨k+1,by omega,by omega,by simp only [zkq,zkv,zle,az];omega,by repeat first|exact .refl _|refine .push ?_ _,af (hcl1 _) (hlc _),?_,?_⟩
   ·simp [ltF,zle,az,znn,znf,hlv]
    omega
   ·simp [bk,wk2,wk1,wkM,Fr.get]
  ·have hk':k=l.length:=by simp at hc;omega
   subst hk'
   rw [List.take_length]
   simp only [go_sem]
   refine ⟨?_,by repeat first|exact .refl _|refine .push ?_ _,hcl1 _,?_⟩
   ·simp [wk,wk2,wk1,ae]
   ·simp [zns,znv]
def kq:List AV→AHeap→(AV→Prop)→Prop
 |[],_,K=>K (.agg (bw 4 306 307))
 |_,_,_=>False
theorem EK:EntOk Tryz.prog 208 (Ent.pure kq):=by
 refine Ype fun _ H K h=>?_
 unfold kq at h
 split at h
 rotate_left
 ·exact h.elim
 refine ⟨_,h,?_⟩
 refine ACalls.fW ap tNq Tryz.func208 [.cell 0 267] (nrq _) (T:=aj []) (h:=fun hcl hlt=>?_)
 clear hlt
 simp only [go_sem,bw]
 exact Z16
def y6:=eW (bV) sw mb
def GX:=j9 308 6 (bV) sw mb
theorem Ib:EntOk Tryz.prog 308 (Ent.effect y6):=by
 unfold y6
 refine EntOk.effect fun args H K h=>?_
 unfold eW at h
 split at h
 rotate_left
 ·exact h.elim
 rename_i id x
 obtain ⟨q,s,a,⟨hW,rfl,ha,hl⟩,hK⟩:=h
 refine ⟨_,_,hK,?_⟩
 clear hK
 have hF:=hW.facts
 have hcl0:=hW.closed (t:=s.add (mb a))
 have hid:=glq hW.o
 have hq:=glq hW.bu
 refine ACalls.fW ap (tCq fS (tCq uu tNq)) Tryz.func308 [] (by rw [az];omega) (T:=aj []) (h:=fun hcl hlt=>?_)
 clear hlt
 have hcl1:=hcl0 hcl
 unfold mb at hl hcl1 ⊢
 rw [← aR,← aR,← aR,← aR] at hl hcl1 ⊢
 have hl5:=hl
 have hl4:=bb hl5
 have hl3:=bb hl4
 have hl2:=bb hl3
 have hl1:=bb hl2
 simp only [go_sem,bV,vc,az,aF]
 refine eC (.inl rfl) (hW.push _) hl1 ?_
 rw [hF.p0]
 simp only [go_sem,bV,vc,az,aF]
 refine eC (.inr rfl) ((hW.next _).push _) hl2 ?_
 rw [hF.p1]
 simp only [go_sem,bV,vc,az,aF]
 refine eC (.inl rfl) ((hW.next _).push _) hl3 ?_
 rw [hF.p1]
 simp only [go_sem,bV,vc,az,aF]
 refine eC (.inr rfl) ((hW.next _).push _) hl4 ?_
 rw [hF.p1]
 simp only [go_sem,bV,vc,az,aF]
 refine zI (ha) ((hW.next _).push _) hl5 ?_
 rw [hF.p1]
 try simp only [go_sem,bV,vc,az,aF]
 exact Z15
theorem B6:EntOk Tryz.prog 209 (Ent.effect GX):=iZ GD (fun _ x=>tP x) (fun _=>⟨_,rfl,rfl,rfl⟩) fun wf sz c ok g ew es ec eo eg hone hlt' hag id most r q s l H hW ha hl=>by
 refine ACalls.fW ap (tCq cb (tCq Ib tNq)) Tryz.func209 [] (by rw [az];omega) (T:=aj [(2,[[],[],[],[],[],[],[],[],[4,7],[],[],[4,7]])]) (h:=fun hcl hlt=>?_)
 have hF:=hW.facts
 have hcl1:=fun t=>hW.closed (t:=t) hcl
 have hid:=glq hW.o
 have hq:=glq hW.bu
 have hll:=fA hone hl
 obtain ⟨b,sl,sf,sa⟩:=s
 have hne:=cz hid
 have hneq:=cz hq
 have n1:(id=q)=False:=eq_false hW.ne
 have n2:(q=id)=False:=eq_false fun e=>hW.ne e.symm
 have hcs:=ag hW.o
 have hb0:=hW.bu
 have hi0:=hW.o
 have hnn:=hW.ne
 have hlb:b.length≤cG:=bb hl
 rw [br] at hlb
 dsimp only at hcs hb0 hi0 hlb
 have lw2:=cO (l.length:Int) 2
 clear hlt
 have hcm:=fun cs=>@bA H id cs hid
 have hA:=fun X Y=>@bS H id q X Y hnn hid
 have hB:=fun X=>cL (X:=X) hnn hb0
 have eh:=fun X Y Z=>@cM H id q X Y Z
 have hL2:sl=true→(sl||decide ((l.length:Int) > most))=true:=fun h=>by rw [h,Bool.true_or]
 have hL3:sl=false→decide ((l.length:Int) > most)=(sl||decide ((l.length:Int) > most)):=fun h=>by rw [h,Bool.false_or]
 have hst:=fw (H:=H) (id:=id) (q:=q) (b:=b) (sl:=sl) (sf:=sf) (sa:=sa) (n:=l.length) (most:=most)
 have hS1:=hW.next ((⟨b,sl,sf,sa⟩:Enc).add (d7 l.length most))
 have htot:(((⟨b,sl,sf,sa⟩:Enc).add (d7 l.length most)).add (bR g l))=(⟨b,sl,sf,sa⟩:Enc).add (bF g most l):=by rw [aR];rfl
 rw [← htot] at hl ⊢
 generalize ((⟨b,sl,sf,sa⟩:Enc).add (d7 l.length most))=s1 at *
 generalize (sl||decide ((l.length:Int) > most))=L at *
 have hlv:∀ n,(AV.slice .any sz (l.map c)).lt n:=fun n=>aZ (hlt' n)
 have hlc:=fun n=>@eD n most wf r
 cases sl
 case' true =>
  rw [hL2 rfl] at hst
  simp only [go_sem,byq,hne,hneq,n1,n2,hcs,hcm,hA,hB,eh,hi0,hb0,aW,ybb]
 case' false =>
  simp only [go_sem,byq,hne,hneq,n1,n2,hcs,hcm,hA,hB,eh,hi0,hb0,aW,ybb,hL3 rfl]
 all_goals
  (repeat with_reducible refine And.intro (by first|assumption|decide|omega|exact ⟨by omega,by omega⟩) ?_)
  refine aD (A:=Nat) (fun k=>[(0,.ptr id 0),(4,.ptr H.nx 0),(33,.slice .any sz (l.map c)),(34,.int .i64 (l.length:Int)),(35,.int .i64 (k:Int))])
   (fun k=>(swH H id q (s1.add (bR g (l.take k)))).push (.cells (bw most wf r))) (fun k=>k≤l.length) (fun k=>l.length - k) 0 (by omega) ?_ fun k hk=>?_
  ·rw [yar,bR,d9,hst]
   refine ⟨by simp only [zkq,zkv,zle,zlf,az];omega,by repeat first|exact .refl _|refine .push ?_ _,?_,?_,?_⟩
   ·rw [← hst];exact af (hcl1 _) (hlc _)
   ·simp [ltF,zle,zlf,znn,znf,hlv]
    omega
   ·simp [bk,wk2,wk1,wkM,Fr.get]
  simp only [go_sem]
  refine ak (fun hc=>?_) (fun hc=>?_)
  ·have hk':k<l.length:=by simp at hc;omega
   obtain ⟨x,hx⟩:∃ x,x=l[k]:=⟨_,rfl⟩
   have hg:=dz (f:=c) (l:=l) (k:=k) (x:=x) (by rw [gQq hk',hx])
   have e5:=Yk5 k
   have hxo:=ha x (by rw [hx];exact gMq hk')
   obtain ⟨es',hlk⟩:=eE (g:=g) hk' hx hl
   have hSk:=hW.next (s1.add (bR g (l.take k)))
   obtain ⟨cs,hcc,hcl3,hall⟩:=hag x
   have hsp:∀ zs:List AV,zs.length=sz→splice zs 0 cs=cs:=fun zs hz=>dm (hz.trans hcl3.symm)
   have hts:List.take sz cs=cs:=ybc (by omega)
   rw [hcc] at hg
   clear hag
   subst ew es ec eo eg
   simp only [go_sem,iNq,ybb,hg,hcl3,hts,hall,hsp,if_true,yaz,yba,az,bw,br]
   refine ⟨by omega,?_⟩
   rw [← hcc]
   refine oR hxo (hSk.push2 _ _) hlk ?_
   rw [hF.p2,es']
   simp only [go_sem,e5]
   refine ⟨k+1,by omega,by omega,by simp only [zkq,zkv,zle,az];omega,by repeat first|exact .refl _|refine .push ?_ _,af (hcl1 _) (hlc _),?_,?_⟩
   ·simp [ltF,zle,az,znn,znf,hlv]
    omega
   ·simp [bk,wk2,wk1,wkM,Fr.get]
  ·have hk':k=l.length:=by simp at hc;omega
   subst hk'
   rw [List.take_length]
   simp only [go_sem]
   refine ⟨?_,by repeat first|exact .refl _|refine .push ?_ _,hcl1 _,?_⟩
   ·simp [wk,wk2,wk1,ae]
   ·simp [zns,znv]
def kh:List AV→AHeap→(AV→Prop)→Prop
 |[],_,K=>K (.agg (bw 12 308 309))
 |_,_,_=>False
theorem FU:EntOk Tryz.prog 210 (Ent.pure kh):=by
 refine Ype fun _ H K h=>?_
 unfold kh at h
 split at h
 rotate_left
 ·exact h.elim
 refine ⟨_,h,?_⟩
 refine ACalls.fW ap tNq Tryz.func210 [.cell 0 273] (nrq _) (T:=aj []) (h:=fun hcl hlt=>?_)
 clear hlt
 simp only [go_sem,bw]
 exact Z16
def y3:=eW (bE) GZ sy
def HZ:=j9 310 3 (bE) GZ sy
theorem GA:EntOk Tryz.prog 310 (Ent.effect y3):=by
 unfold y3
 refine EntOk.effect fun args H K h=>?_
 unfold eW at h
 split at h
 rotate_left
 ·exact h.elim
 rename_i id x
 obtain ⟨q,s,a,⟨hW,rfl,ha,hl⟩,hK⟩:=h
 refine ⟨_,_,hK,?_⟩
 clear hK
 have hF:=hW.facts
 have hcl0:=hW.closed (t:=s.add (sy a))
 have hid:=glq hW.o
 have hq:=glq hW.bu
 refine ACalls.fW ap (tCq lD (tCq fS tNq)) Tryz.func310 [] (by rw [az];omega) (T:=aj []) (h:=fun hcl hlt=>?_)
 clear hlt
 have hcl1:=hcl0 hcl
 unfold sy at hl hcl1 ⊢
 rw [← aR,← aR] at hl hcl1 ⊢
 have hl3:=hl
 have hl2:=bb hl3
 have hl1:=bb hl2
 simp only [go_sem,bE,az,aF]
 refine oq (ha) (hW.push _) hl1 ?_
 rw [hF.p0]
 simp only [go_sem,bE,az,aF]
 refine eC (.inr rfl) ((hW.next _).push _) hl2 ?_
 rw [hF.p1]
 simp only [go_sem,bE,az,aF]
 refine eC (.inl rfl) ((hW.next _).push _) hl3 ?_
 rw [hF.p1]
 try simp only [go_sem,bE,az,aF]
 exact Z15
theorem Bu:EntOk Tryz.prog 215 (Ent.effect HZ):=iZ Jl (fun _ x=>wO x) (fun _=>⟨_,rfl,rfl,rfl⟩) fun wf sz c ok g ew es ec eo eg hone hlt' hag id most r q s l H hW ha hl=>by
 refine ACalls.fW ap (tCq cb (tCq GA tNq)) Tryz.func215 [] (by rw [az];omega) (T:=aj [(2,[[],[],[],[],[],[],[],[],[4,7],[],[],[4,7]])]) (h:=fun hcl hlt=>?_)
 have hF:=hW.facts
 have hcl1:=fun t=>hW.closed (t:=t) hcl
 have hid:=glq hW.o
 have hq:=glq hW.bu
 have hll:=fA hone hl
 obtain ⟨b,sl,sf,sa⟩:=s
 have hne:=cz hid
 have hneq:=cz hq
 have n1:(id=q)=False:=eq_false hW.ne
 have n2:(q=id)=False:=eq_false fun e=>hW.ne e.symm
 have hcs:=ag hW.o
 have hb0:=hW.bu
 have hi0:=hW.o
 have hnn:=hW.ne
 have hlb:b.length≤cG:=bb hl
 rw [br] at hlb
 dsimp only at hcs hb0 hi0 hlb
 have lw2:=cO (l.length:Int) 2
 clear hlt
 have hcm:=fun cs=>@bA H id cs hid
 have hA:=fun X Y=>@bS H id q X Y hnn hid
 have hB:=fun X=>cL (X:=X) hnn hb0
 have eh:=fun X Y Z=>@cM H id q X Y Z
 have hL2:sl=true→(sl||decide ((l.length:Int) > most))=true:=fun h=>by rw [h,Bool.true_or]
 have hL3:sl=false→decide ((l.length:Int) > most)=(sl||decide ((l.length:Int) > most)):=fun h=>by rw [h,Bool.false_or]
 have hst:=fw (H:=H) (id:=id) (q:=q) (b:=b) (sl:=sl) (sf:=sf) (sa:=sa) (n:=l.length) (most:=most)
 have hS1:=hW.next ((⟨b,sl,sf,sa⟩:Enc).add (d7 l.length most))
 have htot:(((⟨b,sl,sf,sa⟩:Enc).add (d7 l.length most)).add (bR g l))=(⟨b,sl,sf,sa⟩:Enc).add (bF g most l):=by rw [aR];rfl
 rw [← htot] at hl ⊢
 generalize ((⟨b,sl,sf,sa⟩:Enc).add (d7 l.length most))=s1 at *
 generalize (sl||decide ((l.length:Int) > most))=L at *
 have hlv:∀ n,(AV.slice .any sz (l.map c)).lt n:=fun n=>aZ (hlt' n)
 have hlc:=fun n=>@eD n most wf r
 cases sl
 case' true =>
  rw [hL2 rfl] at hst
  simp only [go_sem,byq,hne,hneq,n1,n2,hcs,hcm,hA,hB,eh,hi0,hb0,aW,ybb]
 case' false =>
  simp only [go_sem,byq,hne,hneq,n1,n2,hcs,hcm,hA,hB,eh,hi0,hb0,aW,ybb,hL3 rfl]
 all_goals
  (repeat with_reducible refine And.intro (by first|assumption|decide|omega|exact ⟨by omega,by omega⟩) ?_)
  refine aD (A:=Nat) (fun k=>[(0,.ptr id 0),(4,.ptr H.nx 0),(33,.slice .any sz (l.map c)),(34,.int .i64 (l.length:Int)),(35,.int .i64 (k:Int))])
   (fun k=>(swH H id q (s1.add (bR g (l.take k)))).push (.cells (bw most wf r))) (fun k=>k≤l.length) (fun k=>l.length - k) 0 (by omega) ?_ fun k hk=>?_
  ·rw [yar,bR,d9,hst]
   refine ⟨by simp only [zkq,zkv,zle,zlf,az];omega,by repeat first|exact .refl _|refine .push ?_ _,?_,?_,?_⟩
   ·rw [← hst];exact af (hcl1 _) (hlc _)
   ·simp [ltF,zle,zlf,znn,znf,hlv]
    omega
   ·simp [bk,wk2,wk1,wkM,Fr.get]
  simp only [go_sem]
  refine ak (fun hc=>?_) (fun hc=>?_)
  ·have hk':k<l.length:=by simp at hc;omega
   obtain ⟨x,hx⟩:∃ x,x=l[k]:=⟨_,rfl⟩
   have hg:=dz (f:=c) (l:=l) (k:=k) (x:=x) (by rw [gQq hk',hx])
   have e5:=Yk5 k
   have hxo:=ha x (by rw [hx];exact gMq hk')
   obtain ⟨es',hlk⟩:=eE (g:=g) hk' hx hl
   have hSk:=hW.next (s1.add (bR g (l.take k)))
   obtain ⟨cs,hcc,hcl3,hall⟩:=hag x
   have hsp:∀ zs:List AV,zs.length=sz→splice zs 0 cs=cs:=fun zs hz=>dm (hz.trans hcl3.symm)
   have hts:List.take sz cs=cs:=ybc (by omega)
   rw [hcc] at hg
   clear hag
   subst ew es ec eo eg
   simp only [go_sem,iNq,ybb,hg,hcl3,hts,hall,hsp,if_true,yaz,yba,az,bw,br]
   refine ⟨by omega,?_⟩
   rw [← hcc]
   refine oR hxo (hSk.push2 _ _) hlk ?_
   rw [hF.p2,es']
   simp only [go_sem,e5]
   refine ⟨k+1,by omega,by omega,by simp only [zkq,zkv,zle,az];omega,by repeat first|exact .refl _|refine .push ?_ _,af (hcl1 _) (hlc _),?_,?_⟩
   ·simp [ltF,zle,az,znn,znf,hlv]
    omega
   ·simp [bk,wk2,wk1,wkM,Fr.get]
  ·have hk':k=l.length:=by simp at hc;omega
   subst hk'
   rw [List.take_length]
   simp only [go_sem]
   refine ⟨?_,by repeat first|exact .refl _|refine .push ?_ _,hcl1 _,?_⟩
   ·simp [wk,wk2,wk1,ae]
   ·simp [zns,znv]
def iQ:List AV→AHeap→(AV→Prop)→Prop
 |[],_,K=>K (.agg (bw 4 310 311))
 |_,_,_=>False
theorem GR:EntOk Tryz.prog 216 (Ent.pure iQ):=by
 refine Ype fun _ H K h=>?_
 unfold iQ at h
 split at h
 rotate_left
 ·exact h.elim
 refine ⟨_,h,?_⟩
 refine ACalls.fW ap tNq Tryz.func216 [.cell 0 281] (nrq _) (T:=aj []) (h:=fun hcl hlt=>?_)
 clear hlt
 simp only [go_sem,bw]
 exact Z16
def zA:=eW (bx) pn ju
def Dj:=j9 222 2 (bx) pn ju
theorem Hz:EntOk Tryz.prog 222 (Ent.effect zA):=by
 unfold zA
 refine EntOk.effect fun args H K h=>?_
 unfold eW at h
 split at h
 rotate_left
 ·exact h.elim
 rename_i id x
 obtain ⟨q,s,a,⟨hW,rfl,ha,hl⟩,hK⟩:=h
 refine ⟨_,_,hK,?_⟩
 clear hK
 have hF:=hW.facts
 have hcl0:=hW.closed (t:=s.add (ju a))
 have hid:=glq hW.o
 have hq:=glq hW.bu
 refine ACalls.fW ap (tCq fS tNq) Tryz.func222 [] (by rw [az];omega) (T:=aj []) (h:=fun hcl hlt=>?_)
 clear hlt
 have hcl1:=hcl0 hcl
 unfold ju at hl hcl1 ⊢
 rw [← aR] at hl hcl1 ⊢
 have hl2:=hl
 have hl1:=bb hl2
 simp only [go_sem,bx,az,aF]
 refine eC (.inr rfl) (hW.push _) hl1 ?_
 rw [hF.p0]
 simp only [go_sem,bx,az,aF]
 refine eC (.inr rfl) ((hW.next _).push _) hl2 ?_
 rw [hF.p1]
 try simp only [go_sem,bx,az,aF]
 exact Z15
theorem Ca:EntOk Tryz.prog 69 (Ent.effect Dj):=iZ Ct (fun _ x=>x7 x) (fun _=>⟨_,rfl,rfl,rfl⟩) fun wf sz c ok g ew es ec eo eg hone hlt' hag id most r q s l H hW ha hl=>by
 refine ACalls.fW ap (tCq cb (tCq Hz tNq)) Tryz.func69 [] (by rw [az];omega) (T:=aj [(2,[[],[],[],[],[],[],[],[],[4,7],[],[],[4,7]])]) (h:=fun hcl hlt=>?_)
 have hF:=hW.facts
 have hcl1:=fun t=>hW.closed (t:=t) hcl
 have hid:=glq hW.o
 have hq:=glq hW.bu
 have hll:=fA hone hl
 obtain ⟨b,sl,sf,sa⟩:=s
 have hne:=cz hid
 have hneq:=cz hq
 have n1:(id=q)=False:=eq_false hW.ne
 have n2:(q=id)=False:=eq_false fun e=>hW.ne e.symm
 have hcs:=ag hW.o
 have hb0:=hW.bu
 have hi0:=hW.o
 have hnn:=hW.ne
 have hlb:b.length≤cG:=bb hl
 rw [br] at hlb
 dsimp only at hcs hb0 hi0 hlb
 have lw2:=cO (l.length:Int) 2
 clear hlt
 have hcm:=fun cs=>@bA H id cs hid
 have hA:=fun X Y=>@bS H id q X Y hnn hid
 have hB:=fun X=>cL (X:=X) hnn hb0
 have eh:=fun X Y Z=>@cM H id q X Y Z
 have hL2:sl=true→(sl||decide ((l.length:Int) > most))=true:=fun h=>by rw [h,Bool.true_or]
 have hL3:sl=false→decide ((l.length:Int) > most)=(sl||decide ((l.length:Int) > most)):=fun h=>by rw [h,Bool.false_or]
 have hst:=fw (H:=H) (id:=id) (q:=q) (b:=b) (sl:=sl) (sf:=sf) (sa:=sa) (n:=l.length) (most:=most)
 have hS1:=hW.next ((⟨b,sl,sf,sa⟩:Enc).add (d7 l.length most))
 have htot:(((⟨b,sl,sf,sa⟩:Enc).add (d7 l.length most)).add (bR g l))=(⟨b,sl,sf,sa⟩:Enc).add (bF g most l):=by rw [aR];rfl
 rw [← htot] at hl ⊢
 generalize ((⟨b,sl,sf,sa⟩:Enc).add (d7 l.length most))=s1 at *
 generalize (sl||decide ((l.length:Int) > most))=L at *
 have hlv:∀ n,(AV.slice .any sz (l.map c)).lt n:=fun n=>aZ (hlt' n)
 have hlc:=fun n=>@eD n most wf r
 cases sl
 case' true =>
  rw [hL2 rfl] at hst
  simp only [go_sem,byq,hne,hneq,n1,n2,hcs,hcm,hA,hB,eh,hi0,hb0,aW,ybb]
 case' false =>
  simp only [go_sem,byq,hne,hneq,n1,n2,hcs,hcm,hA,hB,eh,hi0,hb0,aW,ybb,hL3 rfl]
 all_goals
  (repeat with_reducible refine And.intro (by first|assumption|decide|omega|exact ⟨by omega,by omega⟩) ?_)
  refine aD (A:=Nat) (fun k=>[(0,.ptr id 0),(4,.ptr H.nx 0),(33,.slice .any sz (l.map c)),(34,.int .i64 (l.length:Int)),(35,.int .i64 (k:Int))])
   (fun k=>(swH H id q (s1.add (bR g (l.take k)))).push (.cells (bw most wf r))) (fun k=>k≤l.length) (fun k=>l.length - k) 0 (by omega) ?_ fun k hk=>?_
  ·rw [yar,bR,d9,hst]
   refine ⟨by simp only [zkq,zkv,zle,zlf,az];omega,by repeat first|exact .refl _|refine .push ?_ _,?_,?_,?_⟩
   ·rw [← hst];exact af (hcl1 _) (hlc _)
   ·simp [ltF,zle,zlf,znn,znf,hlv]
    omega
   ·simp [bk,wk2,wk1,wkM,Fr.get]
  simp only [go_sem]
  refine ak (fun hc=>?_) (fun hc=>?_)
  ·have hk':k<l.length:=by simp at hc;omega
   obtain ⟨x,hx⟩:∃ x,x=l[k]:=⟨_,rfl⟩
   have hg:=dz (f:=c) (l:=l) (k:=k) (x:=x) (by rw [gQq hk',hx])
   have e5:=Yk5 k
   have hxo:=ha x (by rw [hx];exact gMq hk')
   obtain ⟨es',hlk⟩:=eE (g:=g) hk' hx hl
   have hSk:=hW.next (s1.add (bR g (l.take k)))
   obtain ⟨cs,hcc,hcl3,hall⟩:=hag x
   have hsp:∀ zs:List AV,zs.length=sz→splice zs 0 cs=cs:=fun zs hz=>dm (hz.trans hcl3.symm)
   have hts:List.take sz cs=cs:=ybc (by omega)
   rw [hcc] at hg
   clear hag
   subst ew es ec eo eg
   simp only [go_sem,iNq,ybb,hg,hcl3,hts,hall,hsp,if_true,yaz,yba,az,bw,br]
   refine ⟨by omega,?_⟩
   rw [← hcc]
   refine oR hxo (hSk.push2 _ _) hlk ?_
   rw [hF.p2,es']
   simp only [go_sem,e5]
   refine ⟨k+1,by omega,by omega,by simp only [zkq,zkv,zle,az];omega,by repeat first|exact .refl _|refine .push ?_ _,af (hcl1 _) (hlc _),?_,?_⟩
   ·simp [ltF,zle,az,znn,znf,hlv]
    omega
   ·simp [bk,wk2,wk1,wkM,Fr.get]
  ·have hk':k=l.length:=by simp at hc;omega
   subst hk'
   rw [List.take_length]
   simp only [go_sem]
   refine ⟨?_,by repeat first|exact .refl _|refine .push ?_ _,hcl1 _,?_⟩
   ·simp [wk,wk2,wk1,ae]
   ·simp [zns,znv]
def g7:List AV→AHeap→(AV→Prop)→Prop
 |[],_,K=>K (.agg (bw 12 222 223))
 |_,_,_=>False
theorem CY:EntOk Tryz.prog 70 (Ent.pure g7):=by
 refine Ype fun _ H K h=>?_
 unfold g7 at h
 split at h
 rotate_left
 ·exact h.elim
 refine ⟨_,h,?_⟩
 refine ACalls.fW ap tNq Tryz.func70 [.cell 0 158] (nrq _) (T:=aj []) (h:=fun hcl hlt=>?_)
 clear hlt
 simp only [go_sem,bw]
 exact Z16
def zm:=eW (bU) pn pK
def E3:=j9 231 6 (bU) pn pK
theorem Gy:EntOk Tryz.prog 231 (Ent.effect zm):=by
 unfold zm
 refine EntOk.effect fun args H K h=>?_
 unfold eW at h
 split at h
 rotate_left
 ·exact h.elim
 rename_i id x
 obtain ⟨q,s,a,⟨hW,rfl,ha,hl⟩,hK⟩:=h
 refine ⟨_,_,hK,?_⟩
 clear hK
 have hF:=hW.facts
 have hcl0:=hW.closed (t:=s.add (pK a))
 have hid:=glq hW.o
 have hq:=glq hW.bu
 refine ACalls.fW ap (tCq fS tNq) Tryz.func231 [] (by rw [az];omega) (T:=aj []) (h:=fun hcl hlt=>?_)
 clear hlt
 have hcl1:=hcl0 hcl
 unfold pK at hl hcl1 ⊢
 rw [← aR,← aR,← aR,← aR,← aR] at hl hcl1 ⊢
 have hl6:=hl
 have hl5:=bb hl6
 have hl4:=bb hl5
 have hl3:=bb hl4
 have hl2:=bb hl3
 have hl1:=bb hl2
 simp only [go_sem,bU,az,aF]
 refine eC (.inr rfl) (hW.push _) hl1 ?_
 rw [hF.p0]
 simp only [go_sem,bU,az,aF]
 refine eC (.inl rfl) ((hW.next _).push _) hl2 ?_
 rw [hF.p1]
 simp only [go_sem,bU,az,aF]
 refine eC (.inr rfl) ((hW.next _).push _) hl3 ?_
 rw [hF.p1]
 simp only [go_sem,bU,az,aF]
 refine eC (.inl rfl) ((hW.next _).push _) hl4 ?_
 rw [hF.p1]
 simp only [go_sem,bU,az,aF]
 refine eC (.inr rfl) ((hW.next _).push _) hl5 ?_
 rw [hF.p1]
 simp only [go_sem,bU,az,aF]
 refine eC (.inl rfl) ((hW.next _).push _) hl6 ?_
 rw [hF.p1]
 try simp only [go_sem,bU,az,aF]
 exact Z15
theorem Cs:EntOk Tryz.prog 73 (Ent.effect E3):=iZ Jp (fun _ x=>Fm x) (fun _=>⟨_,rfl,rfl,rfl⟩) fun wf sz c ok g ew es ec eo eg hone hlt' hag id most r q s l H hW ha hl=>by
 refine ACalls.fW ap (tCq cb (tCq Gy tNq)) Tryz.func73 [] (by rw [az];omega) (T:=aj [(2,[[],[],[],[],[],[],[],[],[4,7],[],[],[4,7]])]) (h:=fun hcl hlt=>?_)
 have hF:=hW.facts
 have hcl1:=fun t=>hW.closed (t:=t) hcl
 have hid:=glq hW.o
 have hq:=glq hW.bu
 have hll:=fA hone hl
 obtain ⟨b,sl,sf,sa⟩:=s
 have hne:=cz hid
 have hneq:=cz hq
 have n1:(id=q)=False:=eq_false hW.ne
 have n2:(q=id)=False:=eq_false fun e=>hW.ne e.symm
 have hcs:=ag hW.o
 have hb0:=hW.bu
 have hi0:=hW.o
 have hnn:=hW.ne
 have hlb:b.length≤cG:=bb hl
 rw [br] at hlb
 dsimp only at hcs hb0 hi0 hlb
 have lw2:=cO (l.length:Int) 2
 clear hlt
 have hcm:=fun cs=>@bA H id cs hid
 have hA:=fun X Y=>@bS H id q X Y hnn hid
 have hB:=fun X=>cL (X:=X) hnn hb0
 have eh:=fun X Y Z=>@cM H id q X Y Z
 have hL2:sl=true→(sl||decide ((l.length:Int) > most))=true:=fun h=>by rw [h,Bool.true_or]
 have hL3:sl=false→decide ((l.length:Int) > most)=(sl||decide ((l.length:Int) > most)):=fun h=>by rw [h,Bool.false_or]
 have hst:=fw (H:=H) (id:=id) (q:=q) (b:=b) (sl:=sl) (sf:=sf) (sa:=sa) (n:=l.length) (most:=most)
 have hS1:=hW.next ((⟨b,sl,sf,sa⟩:Enc).add (d7 l.length most))
 have htot:(((⟨b,sl,sf,sa⟩:Enc).add (d7 l.length most)).add (bR g l))=(⟨b,sl,sf,sa⟩:Enc).add (bF g most l):=by rw [aR];rfl
 rw [← htot] at hl ⊢
 generalize ((⟨b,sl,sf,sa⟩:Enc).add (d7 l.length most))=s1 at *
 generalize (sl||decide ((l.length:Int) > most))=L at *
 have hlv:∀ n,(AV.slice .any sz (l.map c)).lt n:=fun n=>aZ (hlt' n)
 have hlc:=fun n=>@eD n most wf r
 cases sl
 case' true =>
  rw [hL2 rfl] at hst
  simp only [go_sem,byq,hne,hneq,n1,n2,hcs,hcm,hA,hB,eh,hi0,hb0,aW,ybb]
 case' false =>
  simp only [go_sem,byq,hne,hneq,n1,n2,hcs,hcm,hA,hB,eh,hi0,hb0,aW,ybb,hL3 rfl]
 all_goals
  (repeat with_reducible refine And.intro (by first|assumption|decide|omega|exact ⟨by omega,by omega⟩) ?_)
  refine aD (A:=Nat) (fun k=>[(0,.ptr id 0),(4,.ptr H.nx 0),(33,.slice .any sz (l.map c)),(34,.int .i64 (l.length:Int)),(35,.int .i64 (k:Int))])
   (fun k=>(swH H id q (s1.add (bR g (l.take k)))).push (.cells (bw most wf r))) (fun k=>k≤l.length) (fun k=>l.length - k) 0 (by omega) ?_ fun k hk=>?_
  ·rw [yar,bR,d9,hst]
   refine ⟨by simp only [zkq,zkv,zle,zlf,az];omega,by repeat first|exact .refl _|refine .push ?_ _,?_,?_,?_⟩
   ·rw [← hst];exact af (hcl1 _) (hlc _)
   ·simp [ltF,zle,zlf,znn,znf,hlv]
    omega
   ·simp [bk,wk2,wk1,wkM,Fr.get]
  simp only [go_sem]
  refine ak (fun hc=>?_) (fun hc=>?_)
  ·have hk':k<l.length:=by simp at hc;omega
   obtain ⟨x,hx⟩:∃ x,x=l[k]:=⟨_,rfl⟩
   have hg:=dz (f:=c) (l:=l) (k:=k) (x:=x) (by rw [gQq hk',hx])
   have e5:=Yk5 k
   have hxo:=ha x (by rw [hx];exact gMq hk')
   obtain ⟨es',hlk⟩:=eE (g:=g) hk' hx hl
   have hSk:=hW.next (s1.add (bR g (l.take k)))
   obtain ⟨cs,hcc,hcl3,hall⟩:=hag x
   have hsp:∀ zs:List AV,zs.length=sz→splice zs 0 cs=cs:=fun zs hz=>dm (hz.trans hcl3.symm)
   have hts:List.take sz cs=cs:=ybc (by omega)
   rw [hcc] at hg
   clear hag
   subst ew es ec eo eg
   simp only [go_sem,iNq,ybb,hg,hcl3,hts,hall,hsp,if_true,yaz,yba,az,bw,br]
   refine ⟨by omega,?_⟩
   rw [← hcc]
   refine oR hxo (hSk.push2 _ _) hlk ?_
   rw [hF.p2,es']
   simp only [go_sem,e5]
   refine ⟨k+1,by omega,by omega,by simp only [zkq,zkv,zle,az];omega,by repeat first|exact .refl _|refine .push ?_ _,af (hcl1 _) (hlc _),?_,?_⟩
   ·simp [ltF,zle,az,znn,znf,hlv]
    omega
   ·simp [bk,wk2,wk1,wkM,Fr.get]
  ·have hk':k=l.length:=by simp at hc;omega
   subst hk'
   rw [List.take_length]
   simp only [go_sem]
   refine ⟨?_,by repeat first|exact .refl _|refine .push ?_ _,hcl1 _,?_⟩
   ·simp [wk,wk2,wk1,ae]
   ·simp [zns,znv]
def gX:List AV→AHeap→(AV→Prop)→Prop
 |[],_,K=>K (.agg (bw 8 231 232))
 |_,_,_=>False
theorem Gt:EntOk Tryz.prog 74 (Ent.pure gX):=by
 refine Ype fun _ H K h=>?_
 unfold gX at h
 split at h
 rotate_left
 ·exact h.elim
 refine ⟨_,h,?_⟩
 refine ACalls.fW ap tNq Tryz.func74 [.cell 0 170] (nrq _) (T:=aj []) (h:=fun hcl hlt=>?_)
 clear hlt
 simp only [go_sem,bw]
 exact Z16
end Go.AL
