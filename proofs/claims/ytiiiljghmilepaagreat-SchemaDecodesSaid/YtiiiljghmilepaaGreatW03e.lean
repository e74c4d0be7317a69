/- Contracts and plain laws, a part of the proof; no condition of its own. -/
import Derived.Test.YtiiiljghmilepaaGreatW03c
set_option maxHeartbeats 32000000
open List renaming length_cons → yaz, length_nil → yba, take_of_length_le → ybc, drop_append → ybd, take_append → ybe, drop_eq_nil_of_le → ybf, length_map → ybb, take_zero → yar
open Go Go.AL Go.Proofs
namespace Go.AL
set_option linter.all false
set_option maxRecDepth 10000
theorem Am:ti Tryz.prog 266=some ⟨.struct [(0,3,false),(1,263,false),(2,264,false)],3,24,.agg [.int .i64 0,.nilf,.nilf]⟩:=by kernel_rfl
theorem Bw:ti Tryz.prog 263=some ⟨.func,1,8,.nilf⟩:=by kernel_rfl
theorem B8:ti Tryz.prog 264=some ⟨.func,1,8,.nilf⟩:=by kernel_rfl
theorem AN:ti Tryz.prog 300=some ⟨.struct [(0,3,false),(1,297,false),(2,298,false)],3,24,.agg [.int .i64 0,.nilf,.nilf]⟩:=by kernel_rfl
theorem Ek:ti Tryz.prog 297=some ⟨.func,1,8,.nilf⟩:=by kernel_rfl
theorem BX:ti Tryz.prog 298=some ⟨.func,1,8,.nilf⟩:=by kernel_rfl
theorem zZ:ti Tryz.prog 364=some ⟨.struct [(0,3,false),(1,361,false),(2,362,false)],3,24,.agg [.int .i64 0,.nilf,.nilf]⟩:=by kernel_rfl
theorem B4:ti Tryz.prog 361=some ⟨.func,1,8,.nilf⟩:=by kernel_rfl
theorem CT:ti Tryz.prog 362=some ⟨.func,1,8,.nilf⟩:=by kernel_rfl
theorem A7:ti Tryz.prog 108=some ⟨.struct [(0,3,false),(1,105,false),(2,106,false)],3,24,.agg [.int .i64 0,.nilf,.nilf]⟩:=by kernel_rfl
theorem BM:ti Tryz.prog 105=some ⟨.func,1,8,.nilf⟩:=by kernel_rfl
theorem Eo:ti Tryz.prog 106=some ⟨.func,1,8,.nilf⟩:=by kernel_rfl
theorem zF:ti Tryz.prog 273=some ⟨.struct [(0,3,false),(1,270,false),(2,271,false)],3,24,.agg [.int .i64 0,.nilf,.nilf]⟩:=by kernel_rfl
theorem D6:ti Tryz.prog 270=some ⟨.func,1,8,.nilf⟩:=by kernel_rfl
theorem BO:ti Tryz.prog 271=some ⟨.func,1,8,.nilf⟩:=by kernel_rfl
attribute [go_sem] Am Bw B8 AN Ek BX zZ B4 CT A7 BM Eo zF D6 BO
theorem cy {n:Nat} {f:Fn}:AV.lt n (.func f [] []):=by rw [AV.lt];exact ⟨fun j hj=>absurd hj (by simp),fun j hj=>absurd hj (by simp)⟩
/-- how a list's codec stands in memory -/
def bM (most:Int) (f r:Nat):List AV:=[.int .i64 most,.func (.func f) [] [],.func (.func r) [] []]
theorem fx {n:Nat} {most:Int} {f r:Nat}:ltL n (bM most f r):=by simp [bM,zno,znp,zmz,cy]
theorem gv {α:Type} {g:α→Enc} (h1:∀ x,1≤(g x).b.length) {l:List α} {s:Enc} {m:Int} (hl:(s.add (aT g m l)).b.length≤cR):l.length≤100000000000000:=by
 have h2:=ux h1 l
 unfold aT at hl
 rw [cx,cx,bx] at hl
 omega
theorem cE {α:Type} {g:α→Enc} {l:List α} {s:Enc} {k:Nat} {x:α} (hk:k<l.length) (hx:x=l[k]) (hl:(s.add (bP g l)).b.length≤cR) :
 (s.add (bP g (l.take k))).add (g x)=s.add (bP g (l.take (k+1)))∧((s.add (bP g (l.take k))).add (g x)).b.length≤cR:=by
 have et:l.take (k+1)=l.take k++[x]:=by rw [hx,List.take_succ_eq_append_getElem hk]
 have es:(s.add (bP g (l.take k))).add (g x)=s.add (bP g (l.take (k+1))):=by rw [ap,← Bl,et]
 refine ⟨es,?_⟩
 have h1:=A3 g l (k+1)
 rw [es]
 rw [cx] at hl ⊢
 omega
theorem cd {H:AHeap} {id q:Nat} {X:List AV} {Y:AObj} (hn:id≠q) (hid:id<H.nx):aO ((H.set id (.cells X)).set q Y) id=some X:=by
 unfold aO;rw [AHeap.get_set_ne _ _ hn,AHeap.get_set_same _ _ hid]
theorem cF {H:AHeap} {id q:Nat} {X o:AObj} (hn:id≠q) (h:H.get q=some o):(H.set id X).get q=some o:=by rw [AHeap.get_set_ne _ _ (fun e=>hn e.symm)];exact h
theorem cD {H:AHeap} {id q:Nat} {X Y Z:AObj}:((H.set id X).set q Y).set id Z=(H.set q Y).set id Z:=by
 unfold AHeap.set;congr 1;funext j;dsimp only;by_cases h1:j=id<;>simp [h1]
theorem gx {H:AHeap} {id q n:Nat} {b:List UInt8} {sl sf sa:Bool} {most:Int}:swH H id q ((⟨b,sl,sf,sa⟩:Enc).add (cC n most))=(H.set q (.buf 1 (b.length+(fQ (n:Int) 2).length))).set id (.cells (swC q (b++fQ (n:Int) 2) (sl||decide ((n:Int) > most)) sf sa)):=by
 unfold swH Enc.add cC swC
 simp only [Bool.or_false,List.length_append]
theorem SOn.push2 {H:AHeap} {id q:Nat} {s:Enc} (h:SOn H id q s) (x y:AObj):SOn ((H.push x).push y) id q s:=(h.push x).push y
theorem aM {H:AHeap} {id q:Nat} {s:Enc}:(swH H id q s).nx=H.nx:=af
theorem ff {n v:Nat}:(vv v).lt n:=by simp [vv,znl,zno,znp,zmz]
theorem bO {n:Nat} (x:SField):(ar x).lt n:=by simp [ar,znl,zno,znp,zmz,znb]
theorem bX {n:Nat} (x:SCase):(aK x).lt n:=by simp [aK,vc,znl,zno,znp,zmz]
theorem bC {n:Nat} (x:SParam):(aD x).lt n:=by simp [aD,znl,zno,znp,zmz,znb]
theorem bZ {n:Nat} (x:SPrim):(aL x).lt n:=by simp [aL,vc,znl,zno,znp,zmz]
theorem ck {n:Nat} (x:SKey):(aQ x).lt n:=by simp [aQ,znl,zno,znp,zmz,znb]
theorem bN {n:Nat} (x:SStage):(az x).lt n:=by simp [az,znl,zno,znp,zmz]
theorem cn {n:Nat} (x:SRef):(aR x).lt n:=by simp [aR,znl,zno,znp,zmz]
theorem bg {n:Nat} (x:SHeader):(aj x).lt n:=by simp [aj,inL,znl,zno,znp,zmz,znb,aa fun _=>of_eq_true zmz]
theorem bk {n:Nat} (x:SState):(ak x).lt n:=by simp [ak,znl,zno,znp,zmz,aa bX]
theorem aW {n:Nat} (x:SAction):(ah x).lt n:=by simp [ah,znl,zno,znp,zmz,znb,aa bC,aa bZ]
theorem aS {n:Nat} (x:SGrant):(ax x).lt n:=by simp [ax,boL,znl,zno,znp,zmz,zna,aa fun _=>of_eq_true zna]
theorem bh {n:Nat} (x:STable):(aq x).lt n:=by simp [aq,inL,znl,zno,znp,zmz,znb,aa fun _=>of_eq_true zmz,aa ck,aa fun _=>ff]
theorem aV {n:Nat} (x:SRole):(aJ x).lt n:=by simp [aJ,inL,znl,zno,znp,zmz,znb,zna,aa fun _=>of_eq_true zmz,aa aS]
/-! Int -/
def zr:=eW (.int .i64) oW jh
def vD:=iN 229 1 (.int .i64) oW jh
theorem BG:EntOk Tryz.prog 229 (Ent.effect zr):=by
 unfold zr
 refine EntOk.effect fun args H K h=>?_
 unfold eW at h
 split at h
 rotate_left
 ·exact h.elim
 rename_i id x
 obtain ⟨q,s,a,⟨hW,rfl,ha,hl⟩,hK⟩:=h
 refine ⟨_,_,hK,?_⟩
 clear hK
 have hF:=hW.facts
 have hcl0:=hW.closed (t:=s.add (jh a))
 have hid:=AHeap.get_lt hW.o
 have hq:=AHeap.get_lt hW.bu
 refine ACalls.fW aB (TblOk.cons gW TblOk.nil) Tryz.func229 [] (by rw [af];omega) (T:=ay []) (h:=fun hcl hlt=>?_)
 clear hlt
 have hcl1:=hcl0 hcl
 unfold jh at hl hcl1 ⊢
 have hl1:=hl
 simp only [go_sem,af,aM]
 refine cB (.inr rfl) hW hl1 ?_
 try simp only [go_sem,af,aM]
 simp (disch:=first|assumption|omega|(simp;done)|(simp;omega)|(simp only [bt,and_true];first|done|omega|(simp;done))) [↓zmi,beq,ybc,ybd,ybe,al,wk,wk2,wk1,wkM,wkL,aG,ybf,hcl1]
theorem pK:EntOk Tryz.prog 141 (Ent.effect vD):=by
 unfold vD
 refine EntOk.effect fun args H K h=>?_
 unfold iN at h
 split at h
 rotate_left
 ·exact h.elim
 rename_i id most f' r sz' xs
 obtain ⟨q,s,l,⟨hW,rfl,rfl,rfl,ha,hl⟩,hK⟩:=h
 refine ⟨_,_,hK,?_⟩
 clear hK
 have hF:=hW.facts
 have hcl0:=fun t=>hW.closed (t:=t)
 have hid:=AHeap.get_lt hW.o
 have hq:=AHeap.get_lt hW.bu
 have hll:=gv vj hl
 obtain ⟨b,sl,sf,sa⟩:=s
 have hne:=aU hid
 have hneq:=aU hq
 have n1:(id=q)=False:=eq_false hW.ne
 have n2:(q=id)=False:=eq_false fun e=>hW.ne e.symm
 have hcs:=aI hW.o
 have hb0:=hW.bu
 have hi0:=hW.o
 have hnn:=hW.ne
 have hlb:b.length≤cR:=aF hl
 rw [bx] at hlb
 dsimp only at hcs hb0 hi0 hlb
 have lw2:=cY (l.length:Int) 2
 refine ACalls.fW aB (TblOk.cons cI (TblOk.cons BG TblOk.nil)) Tryz.func141 [] (by rw [af];omega) (T:=ay [(2,[[],[],[],[],[],[],[],[],[4,7],[],[],[4,7]])]) (h:=fun hcl hlt=>?_)
 clear hlt
 have hcl1:=fun t=>hcl0 t hcl
 have hcm:=fun cs=>@av H id cs hid
 have hA:=fun X Y=>@cd H id q X Y hnn hid
 have hB:=fun X=>cF (X:=X) hnn hb0
 have eh:=fun X Y Z=>@cD H id q X Y Z
 have hL2:sl=true→(sl||decide ((l.length:Int) > most))=true:=fun h=>by rw [h,Bool.true_or]
 have hL3:sl=false→decide ((l.length:Int) > most)=(sl||decide ((l.length:Int) > most)):=fun h=>by rw [h,Bool.false_or]
 have hst:=gx (H:=H) (id:=id) (q:=q) (b:=b) (sl:=sl) (sf:=sf) (sa:=sa) (n:=l.length) (most:=most)
 have hS1:=hW.next ((⟨b,sl,sf,sa⟩:Enc).add (cC l.length most))
 have htot:(((⟨b,sl,sf,sa⟩:Enc).add (cC l.length most)).add (bP jh l))=(⟨b,sl,sf,sa⟩:Enc).add (aT jh most l):=by rw [ap];rfl
 rw [← htot] at hl ⊢
 generalize ((⟨b,sl,sf,sa⟩:Enc).add (cC l.length most))=s1 at *
 generalize (sl||decide ((l.length:Int) > most))=L at *
 have hlv:∀ n,(AV.slice .any 1 (l.map (.int .i64))).lt n:=fun n=>aa (fun x=>of_eq_true zmz)
 have hlc:=fun n=>@fx n most 229 r
 cases sl
 case' true =>
  rw [hL2 rfl] at hst
  simp only [go_sem,byq,hne,hneq,n1,n2,hcs,hcm,hA,hB,eh,hi0,hb0,ba,ybb]
 case' false =>
  simp only [go_sem,byq,hne,hneq,n1,n2,hcs,hcm,hA,hB,eh,hi0,hb0,ba,ybb,hL3 rfl]
 all_goals
  (repeat with_reducible refine And.intro (by first|assumption|decide|omega|exact ⟨by omega,by omega⟩) ?_)
  refine aA (A:=Nat) (fun k=>[(0,.ptr id 0),(4,.ptr H.nx 0),(33,.slice .any 1 (l.map (.int .i64))),(34,.int .i64 (l.length:Int)),(35,.int .i64 (k:Int))])
   (fun k=>(swH H id q (s1.add (bP jh (l.take k)))).push (.cells (bM most 229 r))) (fun k=>k≤l.length) (fun k=>l.length - k) 0 (by omega) ?_ fun k hk=>?_
  ·rw [yar,bP,cz,hst]
   refine ⟨by simp only [zkk,zkp,zky,zkz,af];omega,by repeat first|exact .refl _|refine .push ?_ _,?_,?_,?_⟩
   ·rw [← hst];exact ag (hcl1 _) (hlc _)
   ·simp [ltF,zky,zkz,znh,zmz,hlv]
    omega
   ·simp [bf,wk2,wk1,wkM,Fr.get]
  simp only [go_sem]
  refine ai (fun hc=>?_) (fun hc=>?_)
  ·have hk':k<l.length:=by simp at hc;omega
   obtain ⟨x,hx⟩:∃ x,x=l[k]:=⟨_,rfl⟩
   have hg:=bc (f:=.int .i64) (l:=l) (k:=k) (x:=x) (by rw [List.getElem?_eq_getElem hk',hx])
   have e5:IntKind.i64.wrap ((k:Int)+1)=((k+1:Nat):Int):=by rw [wrap_i64]<;>omega
   have hxo:=ha x (by rw [hx];exact List.getElem_mem hk')
   obtain ⟨es,hlk⟩:=cE (g:=jh) hk' hx hl
   have hSk:=hW.next (s1.add (bP jh (l.take k)))
   simp only [go_sem,Int.toNat_natCast,ybb,hg,af,bM,bx]
   refine ⟨by omega,?_⟩
   refine mi (c:=.int .i64) hxo (hSk.push _) hlk ?_
   rw [hF.p1,es]
   simp only [go_sem,e5]
   refine ⟨k+1,by omega,by omega,by simp only [zkk,zkp,zky,af];omega,by repeat first|exact .refl _|refine .push ?_ _,ag (hcl1 _) (hlc _),?_,?_⟩
   ·simp [ltF,zky,af,znh,zmz,hlv]
    omega
   ·simp [bf,wk2,wk1,wkM,Fr.get]
  ·have hk':k=l.length:=by simp at hc;omega
   subst hk'
   rw [List.take_length]
   simp only [go_sem]
   refine ⟨?_,by repeat first|exact .refl _|refine .push ?_ _,hcl1 _,?_⟩
   ·simp [wk,wk2,wk1,aG]
   ·simp [znm,znp]
def dY:List AV→AHeap→(AV→Prop)→Prop
 |[.int .i64 most],_,K=>K (.agg (bM most 229 230))
 |_,_,_=>False
theorem ln:EntOk Tryz.prog 142 (Ent.pure dY):=by
 refine EntOk.pure fun args H K h=>?_
 unfold dY at h
 split at h
 rotate_left
 ·exact h.elim
 refine ⟨_,h,?_⟩
 refine ACalls.fW aB TblOk.nil Tryz.func142 [.cell 2 266] (Nat.le_refl _) (T:=ay []) (h:=fun hcl hlt=>?_)
 clear hlt
 simp only [go_sem,bM]
 simp (disch:=first|assumption|omega|(simp;done)|(simp;omega)|(simp only [bt,and_true];first|done|omega|(simp;done))) [↓zmi,beq,ybc,ybd,ybe,al,wk,wk2,wk1,wkM,wkL,aG,ybf,hcl,cy]
/-! Val -/
def vo:=iN 232 2 (vv) j3 i5
theorem AW:EntOk Tryz.prog 161 (Ent.effect vo):=by
 unfold vo
 refine EntOk.effect fun args H K h=>?_
 unfold iN at h
 split at h
 rotate_left
 ·exact h.elim
 rename_i id most f' r sz' xs
 obtain ⟨q,s,l,⟨hW,rfl,rfl,rfl,ha,hl⟩,hK⟩:=h
 refine ⟨_,_,hK,?_⟩
 clear hK
 have hF:=hW.facts
 have hcl0:=fun t=>hW.closed (t:=t)
 have hid:=AHeap.get_lt hW.o
 have hq:=AHeap.get_lt hW.bu
 have hll:=gv vf hl
 obtain ⟨b,sl,sf,sa⟩:=s
 have hne:=aU hid
 have hneq:=aU hq
 have n1:(id=q)=False:=eq_false hW.ne
 have n2:(q=id)=False:=eq_false fun e=>hW.ne e.symm
 have hcs:=aI hW.o
 have hb0:=hW.bu
 have hi0:=hW.o
 have hnn:=hW.ne
 have hlb:b.length≤cR:=aF hl
 rw [bx] at hlb
 dsimp only at hcs hb0 hi0 hlb
 have lw2:=cY (l.length:Int) 2
 refine ACalls.fW aB (TblOk.cons cI (TblOk.cons uC TblOk.nil)) Tryz.func161 [] (by rw [af];omega) (T:=ay [(2,[[],[],[],[],[],[],[],[],[4,7],[],[],[4,7]])]) (h:=fun hcl hlt=>?_)
 clear hlt
 have hcl1:=fun t=>hcl0 t hcl
 have hcm:=fun cs=>@av H id cs hid
 have hA:=fun X Y=>@cd H id q X Y hnn hid
 have hB:=fun X=>cF (X:=X) hnn hb0
 have eh:=fun X Y Z=>@cD H id q X Y Z
 have hL2:sl=true→(sl||decide ((l.length:Int) > most))=true:=fun h=>by rw [h,Bool.true_or]
 have hL3:sl=false→decide ((l.length:Int) > most)=(sl||decide ((l.length:Int) > most)):=fun h=>by rw [h,Bool.false_or]
 have hst:=gx (H:=H) (id:=id) (q:=q) (b:=b) (sl:=sl) (sf:=sf) (sa:=sa) (n:=l.length) (most:=most)
 have hS1:=hW.next ((⟨b,sl,sf,sa⟩:Enc).add (cC l.length most))
 have htot:(((⟨b,sl,sf,sa⟩:Enc).add (cC l.length most)).add (bP i5 l))=(⟨b,sl,sf,sa⟩:Enc).add (aT i5 most l):=by rw [ap];rfl
 rw [← htot] at hl ⊢
 generalize ((⟨b,sl,sf,sa⟩:Enc).add (cC l.length most))=s1 at *
 generalize (sl||decide ((l.length:Int) > most))=L at *
 have hlv:∀ n,(AV.slice .any 2 (l.map (vv))).lt n:=fun n=>aa (fun x=>ff)
 have hlc:=fun n=>@fx n most 232 r
 cases sl
 case' true =>
  rw [hL2 rfl] at hst
  simp only [go_sem,byq,hne,hneq,n1,n2,hcs,hcm,hA,hB,eh,hi0,hb0,ba,ybb]
 case' false =>
  simp only [go_sem,byq,hne,hneq,n1,n2,hcs,hcm,hA,hB,eh,hi0,hb0,ba,ybb,hL3 rfl]
 all_goals
  (repeat with_reducible refine And.intro (by first|assumption|decide|omega|exact ⟨by omega,by omega⟩) ?_)
  refine aA (A:=Nat) (fun k=>[(0,.ptr id 0),(4,.ptr H.nx 0),(33,.slice .any 2 (l.map (vv))),(34,.int .i64 (l.length:Int)),(35,.int .i64 (k:Int))])
   (fun k=>(swH H id q (s1.add (bP i5 (l.take k)))).push (.cells (bM most 232 r))) (fun k=>k≤l.length) (fun k=>l.length - k) 0 (by omega) ?_ fun k hk=>?_
  ·rw [yar,bP,cz,hst]
   refine ⟨by simp only [zkk,zkp,zky,zkz,af];omega,by repeat first|exact .refl _|refine .push ?_ _,?_,?_,?_⟩
   ·rw [← hst];exact ag (hcl1 _) (hlc _)
   ·simp [ltF,zky,zkz,znh,zmz,hlv]
    omega
   ·simp [bf,wk2,wk1,wkM,Fr.get]
  simp only [go_sem]
  refine ai (fun hc=>?_) (fun hc=>?_)
  ·have hk':k<l.length:=by simp at hc;omega
   obtain ⟨x,hx⟩:∃ x,x=l[k]:=⟨_,rfl⟩
   have hg:=bc (f:=vv) (l:=l) (k:=k) (x:=x) (by rw [List.getElem?_eq_getElem hk',hx])
   have e5:IntKind.i64.wrap ((k:Int)+1)=((k+1:Nat):Int):=by rw [wrap_i64]<;>omega
   have hxo:=ha x (by rw [hx];exact List.getElem_mem hk')
   obtain ⟨es,hlk⟩:=cE (g:=i5) hk' hx hl
   have hSk:=hW.next (s1.add (bP i5 (l.take k)))
   simp only [go_sem,Int.toNat_natCast,ybb,hg,af,vv,bM,bx]
   refine ⟨by omega,?_⟩
   refine pS hxo (hSk.push2 _ _) hlk ?_
   rw [hF.p2,es]
   simp only [go_sem,e5]
   refine ⟨k+1,by omega,by omega,by simp only [zkk,zkp,zky,af];omega,by repeat first|exact .refl _|refine .push ?_ _,ag (hcl1 _) (hlc _),?_,?_⟩
   ·simp [ltF,zky,af,znh,zmz,hlv]
    omega
   ·simp [bf,wk2,wk1,wkM,Fr.get]
  ·have hk':k=l.length:=by simp at hc;omega
   subst hk'
   rw [List.take_length]
   simp only [go_sem]
   refine ⟨?_,by repeat first|exact .refl _|refine .push ?_ _,hcl1 _,?_⟩
   ·simp [wk,wk2,wk1,aG]
   ·simp [znm,znp]
def iV:List AV→AHeap→(AV→Prop)→Prop
 |[],_,K=>K (.agg (bM 4 232 234))
 |_,_,_=>False
theorem wI:EntOk Tryz.prog 162 (Ent.pure iV):=by
 refine EntOk.pure fun args H K h=>?_
 unfold iV at h
 split at h
 rotate_left
 ·exact h.elim
 refine ⟨_,h,?_⟩
 refine ACalls.fW aB TblOk.nil Tryz.func162 [.cell 0 300] (Nat.le_refl _) (T:=ay []) (h:=fun hcl hlt=>?_)
 clear hlt
 simp only [go_sem,bM]
 simp (disch:=first|assumption|omega|(simp;done)|(simp;omega)|(simp only [bt,and_true];first|done|omega|(simp;done))) [↓zmi,beq,ybc,ybd,ybe,al,wk,wk2,wk1,wkM,wkL,aG,ybf,hcl,cy]
/-! Tru -/
def vN:=iN 171 1 (.bool) oW g7
theorem AU:EntOk Tryz.prog 242 (Ent.effect vN):=by
 unfold vN
 refine EntOk.effect fun args H K h=>?_
 unfold iN at h
 split at h
 rotate_left
 ·exact h.elim
 rename_i id most f' r sz' xs
 obtain ⟨q,s,l,⟨hW,rfl,rfl,rfl,ha,hl⟩,hK⟩:=h
 refine ⟨_,_,hK,?_⟩
 clear hK
 have hF:=hW.facts
 have hcl0:=fun t=>hW.closed (t:=t)
 have hid:=AHeap.get_lt hW.o
 have hq:=AHeap.get_lt hW.bu
 have hll:=gv wW hl
 obtain ⟨b,sl,sf,sa⟩:=s
 have hne:=aU hid
 have hneq:=aU hq
 have n1:(id=q)=False:=eq_false hW.ne
 have n2:(q=id)=False:=eq_false fun e=>hW.ne e.symm
 have hcs:=aI hW.o
 have hb0:=hW.bu
 have hi0:=hW.o
 have hnn:=hW.ne
 have hlb:b.length≤cR:=aF hl
 rw [bx] at hlb
 dsimp only at hcs hb0 hi0 hlb
 have lw2:=cY (l.length:Int) 2
 refine ACalls.fW aB (TblOk.cons cI (TblOk.cons uY TblOk.nil)) Tryz.func242 [] (by rw [af];omega) (T:=ay [(2,[[],[],[],[],[],[],[],[],[4,7],[],[],[4,7]])]) (h:=fun hcl hlt=>?_)
 clear hlt
 have hcl1:=fun t=>hcl0 t hcl
 have hcm:=fun cs=>@av H id cs hid
 have hA:=fun X Y=>@cd H id q X Y hnn hid
 have hB:=fun X=>cF (X:=X) hnn hb0
 have eh:=fun X Y Z=>@cD H id q X Y Z
 have hL2:sl=true→(sl||decide ((l.length:Int) > most))=true:=fun h=>by rw [h,Bool.true_or]
 have hL3:sl=false→decide ((l.length:Int) > most)=(sl||decide ((l.length:Int) > most)):=fun h=>by rw [h,Bool.false_or]
 have hst:=gx (H:=H) (id:=id) (q:=q) (b:=b) (sl:=sl) (sf:=sf) (sa:=sa) (n:=l.length) (most:=most)
 have hS1:=hW.next ((⟨b,sl,sf,sa⟩:Enc).add (cC l.length most))
 have htot:(((⟨b,sl,sf,sa⟩:Enc).add (cC l.length most)).add (bP g7 l))=(⟨b,sl,sf,sa⟩:Enc).add (aT g7 most l):=by rw [ap];rfl
 rw [← htot] at hl ⊢
 generalize ((⟨b,sl,sf,sa⟩:Enc).add (cC l.length most))=s1 at *
 generalize (sl||decide ((l.length:Int) > most))=L at *
 have hlv:∀ n,(AV.slice .any 1 (l.map (.bool))).lt n:=fun n=>aa (fun x=>of_eq_true zna)
 have hlc:=fun n=>@fx n most 171 r
 cases sl
 case' true =>
  rw [hL2 rfl] at hst
  simp only [go_sem,byq,hne,hneq,n1,n2,hcs,hcm,hA,hB,eh,hi0,hb0,ba,ybb]
 case' false =>
  simp only [go_sem,byq,hne,hneq,n1,n2,hcs,hcm,hA,hB,eh,hi0,hb0,ba,ybb,hL3 rfl]
 all_goals
  (repeat with_reducible refine And.intro (by first|assumption|decide|omega|exact ⟨by omega,by omega⟩) ?_)
  refine aA (A:=Nat) (fun k=>[(0,.ptr id 0),(4,.ptr H.nx 0),(33,.slice .any 1 (l.map (.bool))),(34,.int .i64 (l.length:Int)),(35,.int .i64 (k:Int))])
   (fun k=>(swH H id q (s1.add (bP g7 (l.take k)))).push (.cells (bM most 171 r))) (fun k=>k≤l.length) (fun k=>l.length - k) 0 (by omega) ?_ fun k hk=>?_
  ·rw [yar,bP,cz,hst]
   refine ⟨by simp only [zkk,zkp,zky,zkz,af];omega,by repeat first|exact .refl _|refine .push ?_ _,?_,?_,?_⟩
   ·rw [← hst];exact ag (hcl1 _) (hlc _)
   ·simp [ltF,zky,zkz,znh,zmz,hlv]
    omega
   ·simp [bf,wk2,wk1,wkM,Fr.get]
  simp only [go_sem]
  refine ai (fun hc=>?_) (fun hc=>?_)
  ·have hk':k<l.length:=by simp at hc;omega
   obtain ⟨x,hx⟩:∃ x,x=l[k]:=⟨_,rfl⟩
   have hg:=bc (f:=.bool) (l:=l) (k:=k) (x:=x) (by rw [List.getElem?_eq_getElem hk',hx])
   have e5:IntKind.i64.wrap ((k:Int)+1)=((k+1:Nat):Int):=by rw [wrap_i64]<;>omega
   have hxo:=ha x (by rw [hx];exact List.getElem_mem hk')
   obtain ⟨es,hlk⟩:=cE (g:=g7) hk' hx hl
   have hSk:=hW.next (s1.add (bP g7 (l.take k)))
   simp only [go_sem,Int.toNat_natCast,ybb,hg,af,bM,bx]
   refine ⟨by omega,?_⟩
   refine pR (hSk.push _) hlk ?_
   rw [hF.p1,es]
   simp only [go_sem,e5]
   refine ⟨k+1,by omega,by omega,by simp only [zkk,zkp,zky,af];omega,by repeat first|exact .refl _|refine .push ?_ _,ag (hcl1 _) (hlc _),?_,?_⟩
   ·simp [ltF,zky,af,znh,zmz,hlv]
    omega
   ·simp [bf,wk2,wk1,wkM,Fr.get]
  ·have hk':k=l.length:=by simp at hc;omega
   subst hk'
   rw [List.take_length]
   simp only [go_sem]
   refine ⟨?_,by repeat first|exact .refl _|refine .push ?_ _,hcl1 _,?_⟩
   ·simp [wk,wk2,wk1,aG]
   ·simp [znm,znp]
def kS:List AV→AHeap→(AV→Prop)→Prop
 |[],_,K=>K (.agg (bM 4 171 174))
 |_,_,_=>False
theorem wV:EntOk Tryz.prog 243 (Ent.pure kS):=by
 refine EntOk.pure fun args H K h=>?_
 unfold kS at h
 split at h
 rotate_left
 ·exact h.elim
 refine ⟨_,h,?_⟩
 refine ACalls.fW aB TblOk.nil Tryz.func243 [.cell 0 364] (Nat.le_refl _) (T:=ay []) (h:=fun hcl hlt=>?_)
 clear hlt
 simp only [go_sem,bM]
 simp (disch:=first|assumption|omega|(simp;done)|(simp;omega)|(simp only [bt,and_true];first|done|omega|(simp;done))) [↓zmi,beq,ybc,ybd,ybe,al,wk,wk2,wk1,wkM,wkL,aG,ybf,hcl,cy]
/-! Fld -/
def zi:=eW (ar) tX dT
def wv:=iN 136 3 (ar) tX dT
theorem BU:EntOk Tryz.prog 136 (Ent.effect zi):=by
 unfold zi
 refine EntOk.effect fun args H K h=>?_
 unfold eW at h
 split at h
 rotate_left
 ·exact h.elim
 rename_i id x
 obtain ⟨q,s,a,⟨hW,rfl,ha,hl⟩,hK⟩:=h
 refine ⟨_,_,hK,?_⟩
 clear hK
 have hF:=hW.facts
 have hcl0:=hW.closed (t:=s.add (dT a))
 have hid:=AHeap.get_lt hW.o
 have hq:=AHeap.get_lt hW.bu
 refine ACalls.fW aB (TblOk.cons gW (TblOk.cons lK TblOk.nil)) Tryz.func136 [] (by rw [af];omega) (T:=ay []) (h:=fun hcl hlt=>?_)
 clear hlt
 have hcl1:=hcl0 hcl
 unfold dT at hl hcl1 ⊢
 rw [← ap,← ap] at hl hcl1 ⊢
 have hl3:=hl
 have hl2:=aF hl3
 have hl1:=aF hl2
 simp only [go_sem,ar,af,aM]
 refine cB (.inr rfl) (hW.push _) hl1 ?_
 rw [hF.p0]
 simp only [go_sem,ar,af,aM]
 refine jv (ha) ((hW.next _).push _) hl2 ?_
 rw [hF.p1]
 simp only [go_sem,ar,af,aM]
 refine cB (.inl rfl) ((hW.next _).push _) hl3 ?_
 rw [hF.p1]
 try simp only [go_sem,ar,af,aM]
 simp (disch:=first|assumption|omega|(simp;done)|(simp;omega)|(simp only [bt,and_true];first|done|omega|(simp;done))) [↓zmi,beq,ybc,ybd,ybe,al,wk,wk2,wk1,wkM,wkL,aG,ybf,hcl1]
theorem zN:EntOk Tryz.prog 76 (Ent.effect wv):=by
 unfold wv
 refine EntOk.effect fun args H K h=>?_
 unfold iN at h
 split at h
 rotate_left
 ·exact h.elim
 rename_i id most f' r sz' xs
 obtain ⟨q,s,l,⟨hW,rfl,rfl,rfl,ha,hl⟩,hK⟩:=h
 refine ⟨_,_,hK,?_⟩
 clear hK
 have hF:=hW.facts
 have hcl0:=fun t=>hW.closed (t:=t)
 have hid:=AHeap.get_lt hW.o
 have hq:=AHeap.get_lt hW.bu
 have hll:=gv tt hl
 obtain ⟨b,sl,sf,sa⟩:=s
 have hne:=aU hid
 have hneq:=aU hq
 have n1:(id=q)=False:=eq_false hW.ne
 have n2:(q=id)=False:=eq_false fun e=>hW.ne e.symm
 have hcs:=aI hW.o
 have hb0:=hW.bu
 have hi0:=hW.o
 have hnn:=hW.ne
 have hlb:b.length≤cR:=aF hl
 rw [bx] at hlb
 dsimp only at hcs hb0 hi0 hlb
 have lw2:=cY (l.length:Int) 2
 refine ACalls.fW aB (TblOk.cons cI (TblOk.cons BU TblOk.nil)) Tryz.func76 [] (by rw [af];omega) (T:=ay [(2,[[],[],[],[],[],[],[],[],[4,7],[],[],[4,7]])]) (h:=fun hcl hlt=>?_)
 clear hlt
 have hcl1:=fun t=>hcl0 t hcl
 have hcm:=fun cs=>@av H id cs hid
 have hA:=fun X Y=>@cd H id q X Y hnn hid
 have hB:=fun X=>cF (X:=X) hnn hb0
 have eh:=fun X Y Z=>@cD H id q X Y Z
 have hL2:sl=true→(sl||decide ((l.length:Int) > most))=true:=fun h=>by rw [h,Bool.true_or]
 have hL3:sl=false→decide ((l.length:Int) > most)=(sl||decide ((l.length:Int) > most)):=fun h=>by rw [h,Bool.false_or]
 have hst:=gx (H:=H) (id:=id) (q:=q) (b:=b) (sl:=sl) (sf:=sf) (sa:=sa) (n:=l.length) (most:=most)
 have hS1:=hW.next ((⟨b,sl,sf,sa⟩:Enc).add (cC l.length most))
 have htot:(((⟨b,sl,sf,sa⟩:Enc).add (cC l.length most)).add (bP dT l))=(⟨b,sl,sf,sa⟩:Enc).add (aT dT most l):=by rw [ap];rfl
 rw [← htot] at hl ⊢
 generalize ((⟨b,sl,sf,sa⟩:Enc).add (cC l.length most))=s1 at *
 generalize (sl||decide ((l.length:Int) > most))=L at *
 have hlv:∀ n,(AV.slice .any 3 (l.map (ar))).lt n:=fun n=>aa (fun x=>bO x)
 have hlc:=fun n=>@fx n most 136 r
 cases sl
 case' true =>
  rw [hL2 rfl] at hst
  simp only [go_sem,byq,hne,hneq,n1,n2,hcs,hcm,hA,hB,eh,hi0,hb0,ba,ybb]
 case' false =>
  simp only [go_sem,byq,hne,hneq,n1,n2,hcs,hcm,hA,hB,eh,hi0,hb0,ba,ybb,hL3 rfl]
 all_goals
  (repeat with_reducible refine And.intro (by first|assumption|decide|omega|exact ⟨by omega,by omega⟩) ?_)
  refine aA (A:=Nat) (fun k=>[(0,.ptr id 0),(4,.ptr H.nx 0),(33,.slice .any 3 (l.map (ar))),(34,.int .i64 (l.length:Int)),(35,.int .i64 (k:Int))])
   (fun k=>(swH H id q (s1.add (bP dT (l.take k)))).push (.cells (bM most 136 r))) (fun k=>k≤l.length) (fun k=>l.length - k) 0 (by omega) ?_ fun k hk=>?_
  ·rw [yar,bP,cz,hst]
   refine ⟨by simp only [zkk,zkp,zky,zkz,af];omega,by repeat first|exact .refl _|refine .push ?_ _,?_,?_,?_⟩
   ·rw [← hst];exact ag (hcl1 _) (hlc _)
   ·simp [ltF,zky,zkz,znh,zmz,hlv]
    omega
   ·simp [bf,wk2,wk1,wkM,Fr.get]
  simp only [go_sem]
  refine ai (fun hc=>?_) (fun hc=>?_)
  ·have hk':k<l.length:=by simp at hc;omega
   obtain ⟨x,hx⟩:∃ x,x=l[k]:=⟨_,rfl⟩
   have hg:=bc (f:=ar) (l:=l) (k:=k) (x:=x) (by rw [List.getElem?_eq_getElem hk',hx])
   have e5:IntKind.i64.wrap ((k:Int)+1)=((k+1:Nat):Int):=by rw [wrap_i64]<;>omega
   have hxo:=ha x (by rw [hx];exact List.getElem_mem hk')
   obtain ⟨es,hlk⟩:=cE (g:=dT) hk' hx hl
   have hSk:=hW.next (s1.add (bP dT (l.take k)))
   simp only [go_sem,Int.toNat_natCast,ybb,hg,af,ar,bM,bx]
   refine ⟨by omega,?_⟩
   refine mi (c:=ar) hxo (hSk.push2 _ _) hlk ?_
   rw [hF.p2,es]
   simp only [go_sem,e5]
   refine ⟨k+1,by omega,by omega,by simp only [zkk,zkp,zky,af];omega,by repeat first|exact .refl _|refine .push ?_ _,ag (hcl1 _) (hlc _),?_,?_⟩
   ·simp [ltF,zky,af,znh,zmz,hlv]
    omega
   ·simp [bf,wk2,wk1,wkM,Fr.get]
  ·have hk':k=l.length:=by simp at hc;omega
   subst hk'
   rw [List.take_length]
   simp only [go_sem]
   refine ⟨?_,by repeat first|exact .refl _|refine .push ?_ _,hcl1 _,?_⟩
   ·simp [wk,wk2,wk1,aG]
   ·simp [znm,znp]
def im:List AV→AHeap→(AV→Prop)→Prop
 |[],_,K=>K (.agg (bM 32 136 138))
 |_,_,_=>False
theorem sc:EntOk Tryz.prog 46 (Ent.pure im):=by
 refine EntOk.pure fun args H K h=>?_
 unfold im at h
 split at h
 rotate_left
 ·exact h.elim
 refine ⟨_,h,?_⟩
 refine ACalls.fW aB TblOk.nil Tryz.func46 [.cell 0 108] (Nat.le_refl _) (T:=ay []) (h:=fun hcl hlt=>?_)
 clear hlt
 simp only [go_sem,bM]
 simp (disch:=first|assumption|omega|(simp;done)|(simp;omega)|(simp only [bt,and_true];first|done|omega|(simp;done))) [↓zmi,beq,ybc,ybd,ybe,al,wk,wk2,wk1,wkM,wkL,aG,ybf,hcl,cy]
/-! Cas -/
def y4:=eW (aK) r7 i7
def ws:=iN 231 5 (aK) r7 i7
theorem Ch:EntOk Tryz.prog 231 (Ent.effect y4):=by
 unfold y4
 refine EntOk.effect fun args H K h=>?_
 unfold eW at h
 split at h
 rotate_left
 ·exact h.elim
 rename_i id x
 obtain ⟨q,s,a,⟨hW,rfl,ha,hl⟩,hK⟩:=h
 refine ⟨_,_,hK,?_⟩
 clear hK
 have hF:=hW.facts
 have hcl0:=hW.closed (t:=s.add (i7 a))
 have hid:=AHeap.get_lt hW.o
 have hq:=AHeap.get_lt hW.bu
 refine ACalls.fW aB (TblOk.cons uC (TblOk.cons gW TblOk.nil)) Tryz.func231 [] (by rw [af];omega) (T:=ay []) (h:=fun hcl hlt=>?_)
 clear hlt
 have hcl1:=hcl0 hcl
 unfold i7 at hl hcl1 ⊢
 rw [← ap,← ap] at hl hcl1 ⊢
 have hl3:=hl
 have hl2:=aF hl3
 have hl1:=aF hl2
 simp only [go_sem,aK,vc,af,aM]
 refine pS (ha.1) (hW.push _) hl1 ?_
 rw [hF.p0]
 simp only [go_sem,aK,vc,af,aM]
 refine pS (ha.2) ((hW.next _).push _) hl2 ?_
 rw [hF.p1]
 simp only [go_sem,aK,vc,af,aM]
 refine cB (.inr rfl) ((hW.next _).push _) hl3 ?_
 rw [hF.p1]
 try simp only [go_sem,aK,vc,af,aM]
 simp (disch:=first|assumption|omega|(simp;done)|(simp;omega)|(simp only [bt,and_true];first|done|omega|(simp;done))) [↓zmi,beq,ybc,ybd,ybe,al,wk,wk2,wk1,wkM,wkL,aG,ybf,hcl1]
theorem z6:EntOk Tryz.prog 146 (Ent.effect ws):=by
 unfold ws
 refine EntOk.effect fun args H K h=>?_
 unfold iN at h
 split at h
 rotate_left
 ·exact h.elim
 rename_i id most f' r sz' xs
 obtain ⟨q,s,l,⟨hW,rfl,rfl,rfl,ha,hl⟩,hK⟩:=h
 refine ⟨_,_,hK,?_⟩
 clear hK
 have hF:=hW.facts
 have hcl0:=fun t=>hW.closed (t:=t)
 have hid:=AHeap.get_lt hW.o
 have hq:=AHeap.get_lt hW.bu
 have hll:=gv vr hl
 obtain ⟨b,sl,sf,sa⟩:=s
 have hne:=aU hid
 have hneq:=aU hq
 have n1:(id=q)=False:=eq_false hW.ne
 have n2:(q=id)=False:=eq_false fun e=>hW.ne e.symm
 have hcs:=aI hW.o
 have hb0:=hW.bu
 have hi0:=hW.o
 have hnn:=hW.ne
 have hlb:b.length≤cR:=aF hl
 rw [bx] at hlb
 dsimp only at hcs hb0 hi0 hlb
 have lw2:=cY (l.length:Int) 2
 refine ACalls.fW aB (TblOk.cons cI (TblOk.cons Ch TblOk.nil)) Tryz.func146 [] (by rw [af];omega) (T:=ay [(2,[[],[],[],[],[],[],[],[],[4,7],[],[],[4,7]])]) (h:=fun hcl hlt=>?_)
 clear hlt
 have hcl1:=fun t=>hcl0 t hcl
 have hcm:=fun cs=>@av H id cs hid
 have hA:=fun X Y=>@cd H id q X Y hnn hid
 have hB:=fun X=>cF (X:=X) hnn hb0
 have eh:=fun X Y Z=>@cD H id q X Y Z
 have hL2:sl=true→(sl||decide ((l.length:Int) > most))=true:=fun h=>by rw [h,Bool.true_or]
 have hL3:sl=false→decide ((l.length:Int) > most)=(sl||decide ((l.length:Int) > most)):=fun h=>by rw [h,Bool.false_or]
 have hst:=gx (H:=H) (id:=id) (q:=q) (b:=b) (sl:=sl) (sf:=sf) (sa:=sa) (n:=l.length) (most:=most)
 have hS1:=hW.next ((⟨b,sl,sf,sa⟩:Enc).add (cC l.length most))
 have htot:(((⟨b,sl,sf,sa⟩:Enc).add (cC l.length most)).add (bP i7 l))=(⟨b,sl,sf,sa⟩:Enc).add (aT i7 most l):=by rw [ap];rfl
 rw [← htot] at hl ⊢
 generalize ((⟨b,sl,sf,sa⟩:Enc).add (cC l.length most))=s1 at *
 generalize (sl||decide ((l.length:Int) > most))=L at *
 have hlv:∀ n,(AV.slice .any 5 (l.map (aK))).lt n:=fun n=>aa (fun x=>bX x)
 have hlc:=fun n=>@fx n most 231 r
 cases sl
 case' true =>
  rw [hL2 rfl] at hst
  simp only [go_sem,byq,hne,hneq,n1,n2,hcs,hcm,hA,hB,eh,hi0,hb0,ba,ybb]
 case' false =>
  simp only [go_sem,byq,hne,hneq,n1,n2,hcs,hcm,hA,hB,eh,hi0,hb0,ba,ybb,hL3 rfl]
 all_goals
  (repeat with_reducible refine And.intro (by first|assumption|decide|omega|exact ⟨by omega,by omega⟩) ?_)
  refine aA (A:=Nat) (fun k=>[(0,.ptr id 0),(4,.ptr H.nx 0),(33,.slice .any 5 (l.map (aK))),(34,.int .i64 (l.length:Int)),(35,.int .i64 (k:Int))])
   (fun k=>(swH H id q (s1.add (bP i7 (l.take k)))).push (.cells (bM most 231 r))) (fun k=>k≤l.length) (fun k=>l.length - k) 0 (by omega) ?_ fun k hk=>?_
  ·rw [yar,bP,cz,hst]
   refine ⟨by simp only [zkk,zkp,zky,zkz,af];omega,by repeat first|exact .refl _|refine .push ?_ _,?_,?_,?_⟩
   ·rw [← hst];exact ag (hcl1 _) (hlc _)
   ·simp [ltF,zky,zkz,znh,zmz,hlv]
    omega
   ·simp [bf,wk2,wk1,wkM,Fr.get]
  simp only [go_sem]
  refine ai (fun hc=>?_) (fun hc=>?_)
  ·have hk':k<l.length:=by simp at hc;omega
   obtain ⟨x,hx⟩:∃ x,x=l[k]:=⟨_,rfl⟩
   have hg:=bc (f:=aK) (l:=l) (k:=k) (x:=x) (by rw [List.getElem?_eq_getElem hk',hx])
   have e5:IntKind.i64.wrap ((k:Int)+1)=((k+1:Nat):Int):=by rw [wrap_i64]<;>omega
   have hxo:=ha x (by rw [hx];exact List.getElem_mem hk')
   obtain ⟨es,hlk⟩:=cE (g:=i7) hk' hx hl
   have hSk:=hW.next (s1.add (bP i7 (l.take k)))
   simp only [go_sem,Int.toNat_natCast,ybb,hg,af,aK,vc,bM,bx]
   refine ⟨by omega,?_⟩
   refine mi (c:=aK) hxo (hSk.push2 _ _) hlk ?_
   rw [hF.p2,es]
   simp only [go_sem,e5]
   refine ⟨k+1,by omega,by omega,by simp only [zkk,zkp,zky,af];omega,by repeat first|exact .refl _|refine .push ?_ _,ag (hcl1 _) (hlc _),?_,?_⟩
   ·simp [ltF,zky,af,znh,zmz,hlv]
    omega
   ·simp [bf,wk2,wk1,wkM,Fr.get]
  ·have hk':k=l.length:=by simp at hc;omega
   subst hk'
   rw [List.take_length]
   simp only [go_sem]
   refine ⟨?_,by repeat first|exact .refl _|refine .push ?_ _,hcl1 _,?_⟩
   ·simp [wk,wk2,wk1,aG]
   ·simp [znm,znp]
def ke:List AV→AHeap→(AV→Prop)→Prop
 |[],_,K=>K (.agg (bM 6 231 233))
 |_,_,_=>False
theorem wq:EntOk Tryz.prog 147 (Ent.pure ke):=by
 refine EntOk.pure fun args H K h=>?_
 unfold ke at h
 split at h
 rotate_left
 ·exact h.elim
 refine ⟨_,h,?_⟩
 refine ACalls.fW aB TblOk.nil Tryz.func147 [.cell 0 273] (Nat.le_refl _) (T:=ay []) (h:=fun hcl hlt=>?_)
 clear hlt
 simp only [go_sem,bM]
 simp (disch:=first|assumption|omega|(simp;done)|(simp;omega)|(simp only [bt,and_true];first|done|omega|(simp;done))) [↓zmi,beq,ybc,ybd,ybe,al,wk,wk2,wk1,wkM,wkL,aG,ybf,hcl,cy]
end Go.AL
open Go Go.AL Go.Proofs
namespace Go.AL
set_option linter.all false
set_option maxRecDepth 10000
theorem As:ti Tryz.prog 280=some ⟨.struct [(0,3,false),(1,277,false),(2,278,false)],3,24,.agg [.int .i64 0,.nilf,.nilf]⟩:=by kernel_rfl
theorem Dd:ti Tryz.prog 277=some ⟨.func,1,8,.nilf⟩:=by kernel_rfl
theorem EC:ti Tryz.prog 278=some ⟨.func,1,8,.nilf⟩:=by kernel_rfl
theorem zR:ti Tryz.prog 286=some ⟨.struct [(0,3,false),(1,283,false),(2,284,false)],3,24,.agg [.int .i64 0,.nilf,.nilf]⟩:=by kernel_rfl
theorem Cf:ti Tryz.prog 283=some ⟨.func,1,8,.nilf⟩:=by kernel_rfl
theorem DW:ti Tryz.prog 284=some ⟨.func,1,8,.nilf⟩:=by kernel_rfl
theorem Bi:ti Tryz.prog 294=some ⟨.struct [(0,3,false),(1,291,false),(2,292,false)],3,24,.agg [.int .i64 0,.nilf,.nilf]⟩:=by kernel_rfl
theorem Ex:ti Tryz.prog 291=some ⟨.func,1,8,.nilf⟩:=by kernel_rfl
theorem Ei:ti Tryz.prog 292=some ⟨.func,1,8,.nilf⟩:=by kernel_rfl
theorem zv:ti Tryz.prog 141=some ⟨.struct [(0,3,false),(1,138,false),(2,139,false)],3,24,.agg [.int .i64 0,.nilf,.nilf]⟩:=by kernel_rfl
theorem BH:ti Tryz.prog 138=some ⟨.func,1,8,.nilf⟩:=by kernel_rfl
theorem BZ:ti Tryz.prog 139=some ⟨.func,1,8,.nilf⟩:=by kernel_rfl
theorem zS:ti Tryz.prog 153=some ⟨.struct [(0,3,false),(1,150,false),(2,151,false)],3,24,.agg [.int .i64 0,.nilf,.nilf]⟩:=by kernel_rfl
theorem D8:ti Tryz.prog 150=some ⟨.func,1,8,.nilf⟩:=by kernel_rfl
theorem BJ:ti Tryz.prog 151=some ⟨.func,1,8,.nilf⟩:=by kernel_rfl
attribute [go_sem] As Dd EC zR Cf DW Bi Ex Ei zv BH BZ zS D8 BJ
/-! Par -/
def yJ:=eW (aD) uH fS
def wC:=iN 235 2 (aD) uH fS
theorem BT:EntOk Tryz.prog 235 (Ent.effect yJ):=by
 unfold yJ
 refine EntOk.effect fun args H K h=>?_
 unfold eW at h
 split at h
 rotate_left
 ·exact h.elim
 rename_i id x
 obtain ⟨q,s,a,⟨hW,rfl,ha,hl⟩,hK⟩:=h
 refine ⟨_,_,hK,?_⟩
 clear hK
 have hF:=hW.facts
 have hcl0:=hW.closed (t:=s.add (fS a))
 have hid:=AHeap.get_lt hW.o
 have hq:=AHeap.get_lt hW.bu
 refine ACalls.fW aB (TblOk.cons lK (TblOk.cons gW TblOk.nil)) Tryz.func235 [] (by rw [af];omega) (T:=ay []) (h:=fun hcl hlt=>?_)
 clear hlt
 have hcl1:=hcl0 hcl
 unfold fS at hl hcl1 ⊢
 rw [← ap] at hl hcl1 ⊢
 have hl2:=hl
 have hl1:=aF hl2
 simp only [go_sem,aD,af,aM]
 refine jv (ha) (hW.push _) hl1 ?_
 rw [hF.p0]
 simp only [go_sem,aD,af,aM]
 refine cB (.inl rfl) ((hW.next _).push _) hl2 ?_
 rw [hF.p1]
 try simp only [go_sem,aD,af,aM]
 simp (disch:=first|assumption|omega|(simp;done)|(simp;omega)|(simp only [bt,and_true];first|done|omega|(simp;done))) [↓zmi,beq,ybc,ybd,ybe,al,wk,wk2,wk1,wkM,wkL,aG,ybf,hcl1]
theorem zO:EntOk Tryz.prog 151 (Ent.effect wC):=by
 unfold wC
 refine EntOk.effect fun args H K h=>?_
 unfold iN at h
 split at h
 rotate_left
 ·exact h.elim
 rename_i id most f' r sz' xs
 obtain ⟨q,s,l,⟨hW,rfl,rfl,rfl,ha,hl⟩,hK⟩:=h
 refine ⟨_,_,hK,?_⟩
 clear hK
 have hF:=hW.facts
 have hcl0:=fun t=>hW.closed (t:=t)
 have hid:=AHeap.get_lt hW.o
 have hq:=AHeap.get_lt hW.bu
 have hll:=gv tv hl
 obtain ⟨b,sl,sf,sa⟩:=s
 have hne:=aU hid
 have hneq:=aU hq
 have n1:(id=q)=False:=eq_false hW.ne
 have n2:(q=id)=False:=eq_false fun e=>hW.ne e.symm
 have hcs:=aI hW.o
 have hb0:=hW.bu
 have hi0:=hW.o
 have hnn:=hW.ne
 have hlb:b.length≤cR:=aF hl
 rw [bx] at hlb
 dsimp only at hcs hb0 hi0 hlb
 have lw2:=cY (l.length:Int) 2
 refine ACalls.fW aB (TblOk.cons cI (TblOk.cons BT TblOk.nil)) Tryz.func151 [] (by rw [af];omega) (T:=ay [(2,[[],[],[],[],[],[],[],[],[4,7],[],[],[4,7]])]) (h:=fun hcl hlt=>?_)
 clear hlt
 have hcl1:=fun t=>hcl0 t hcl
 have hcm:=fun cs=>@av H id cs hid
 have hA:=fun X Y=>@cd H id q X Y hnn hid
 have hB:=fun X=>cF (X:=X) hnn hb0
 have eh:=fun X Y Z=>@cD H id q X Y Z
 have hL2:sl=true→(sl||decide ((l.length:Int) > most))=true:=fun h=>by rw [h,Bool.true_or]
 have hL3:sl=false→decide ((l.length:Int) > most)=(sl||decide ((l.length:Int) > most)):=fun h=>by rw [h,Bool.false_or]
 have hst:=gx (H:=H) (id:=id) (q:=q) (b:=b) (sl:=sl) (sf:=sf) (sa:=sa) (n:=l.length) (most:=most)
 have hS1:=hW.next ((⟨b,sl,sf,sa⟩:Enc).add (cC l.length most))
 have htot:(((⟨b,sl,sf,sa⟩:Enc).add (cC l.length most)).add (bP fS l))=(⟨b,sl,sf,sa⟩:Enc).add (aT fS most l):=by rw [ap];rfl
 rw [← htot] at hl ⊢
 generalize ((⟨b,sl,sf,sa⟩:Enc).add (cC l.length most))=s1 at *
 generalize (sl||decide ((l.length:Int) > most))=L at *
 have hlv:∀ n,(AV.slice .any 2 (l.map (aD))).lt n:=fun n=>aa (fun x=>bC x)
 have hlc:=fun n=>@fx n most 235 r
 cases sl
 case' true =>
  rw [hL2 rfl] at hst
  simp only [go_sem,byq,hne,hneq,n1,n2,hcs,hcm,hA,hB,eh,hi0,hb0,ba,ybb]
 case' false =>
  simp only [go_sem,byq,hne,hneq,n1,n2,hcs,hcm,hA,hB,eh,hi0,hb0,ba,ybb,hL3 rfl]
 all_goals
  (repeat with_reducible refine And.intro (by first|assumption|decide|omega|exact ⟨by omega,by omega⟩) ?_)
  refine aA (A:=Nat) (fun k=>[(0,.ptr id 0),(4,.ptr H.nx 0),(33,.slice .any 2 (l.map (aD))),(34,.int .i64 (l.length:Int)),(35,.int .i64 (k:Int))])
   (fun k=>(swH H id q (s1.add (bP fS (l.take k)))).push (.cells (bM most 235 r))) (fun k=>k≤l.length) (fun k=>l.length - k) 0 (by omega) ?_ fun k hk=>?_
  ·rw [yar,bP,cz,hst]
   refine ⟨by simp only [zkk,zkp,zky,zkz,af];omega,by repeat first|exact .refl _|refine .push ?_ _,?_,?_,?_⟩
   ·rw [← hst];exact ag (hcl1 _) (hlc _)
   ·simp [ltF,zky,zkz,znh,zmz,hlv]
    omega
   ·simp [bf,wk2,wk1,wkM,Fr.get]
  simp only [go_sem]
  refine ai (fun hc=>?_) (fun hc=>?_)
  ·have hk':k<l.length:=by simp at hc;omega
   obtain ⟨x,hx⟩:∃ x,x=l[k]:=⟨_,rfl⟩
   have hg:=bc (f:=aD) (l:=l) (k:=k) (x:=x) (by rw [List.getElem?_eq_getElem hk',hx])
   have e5:IntKind.i64.wrap ((k:Int)+1)=((k+1:Nat):Int):=by rw [wrap_i64]<;>omega
   have hxo:=ha x (by rw [hx];exact List.getElem_mem hk')
   obtain ⟨es,hlk⟩:=cE (g:=fS) hk' hx hl
   have hSk:=hW.next (s1.add (bP fS (l.take k)))
   simp only [go_sem,Int.toNat_natCast,ybb,hg,af,aD,bM,bx]
   refine ⟨by omega,?_⟩
   refine mi (c:=aD) hxo (hSk.push2 _ _) hlk ?_
   rw [hF.p2,es]
   simp only [go_sem,e5]
   refine ⟨k+1,by omega,by omega,by simp only [zkk,zkp,zky,af];omega,by repeat first|exact .refl _|refine .push ?_ _,ag (hcl1 _) (hlc _),?_,?_⟩
   ·simp [ltF,zky,af,znh,zmz,hlv]
    omega
   ·simp [bf,wk2,wk1,wkM,Fr.get]
  ·have hk':k=l.length:=by simp at hc;omega
   subst hk'
   rw [List.take_length]
   simp only [go_sem]
   refine ⟨?_,by repeat first|exact .refl _|refine .push ?_ _,hcl1 _,?_⟩
   ·simp [wk,wk2,wk1,aG]
   ·simp [znm,znp]
def kb:List AV→AHeap→(AV→Prop)→Prop
 |[],_,K=>K (.agg (bM 4 235 236))
 |_,_,_=>False
theorem wS:EntOk Tryz.prog 152 (Ent.pure kb):=by
 refine EntOk.pure fun args H K h=>?_
 unfold kb at h
 split at h
 rotate_left
 ·exact h.elim
 refine ⟨_,h,?_⟩
 refine ACalls.fW aB TblOk.nil Tryz.func152 [.cell 0 280] (Nat.le_refl _) (T:=ay []) (h:=fun hcl hlt=>?_)
 clear hlt
 simp only [go_sem,bM]
 simp (disch:=first|assumption|omega|(simp;done)|(simp;omega)|(simp only [bt,and_true];first|done|omega|(simp;done))) [↓zmi,beq,ybc,ybd,ybe,al,wk,wk2,wk1,wkM,wkL,aG,ybf,hcl,cy]
/-! Prm -/
def y0:=eW (aL) yd jn
def vF:=iN 237 6 (aL) yd jn
theorem Ck:EntOk Tryz.prog 237 (Ent.effect y0):=by
 unfold y0
 refine EntOk.effect fun args H K h=>?_
 unfold eW at h
 split at h
 rotate_left
 ·exact h.elim
 rename_i id x
 obtain ⟨q,s,a,⟨hW,rfl,ha,hl⟩,hK⟩:=h
 refine ⟨_,_,hK,?_⟩
 clear hK
 have hF:=hW.facts
 have hcl0:=hW.closed (t:=s.add (jn a))
 have hid:=AHeap.get_lt hW.o
 have hq:=AHeap.get_lt hW.bu
 refine ACalls.fW aB (TblOk.cons gW (TblOk.cons uC TblOk.nil)) Tryz.func237 [] (by rw [af];omega) (T:=ay []) (h:=fun hcl hlt=>?_)
 clear hlt
 have hcl1:=hcl0 hcl
 unfold jn at hl hcl1 ⊢
 rw [← ap,← ap,← ap,← ap] at hl hcl1 ⊢
 have hl5:=hl
 have hl4:=aF hl5
 have hl3:=aF hl4
 have hl2:=aF hl3
 have hl1:=aF hl2
 simp only [go_sem,aL,vc,af,aM]
 refine cB (.inl rfl) (hW.push _) hl1 ?_
 rw [hF.p0]
 simp only [go_sem,aL,vc,af,aM]
 refine cB (.inr rfl) ((hW.next _).push _) hl2 ?_
 rw [hF.p1]
 simp only [go_sem,aL,vc,af,aM]
 refine cB (.inl rfl) ((hW.next _).push _) hl3 ?_
 rw [hF.p1]
 simp only [go_sem,aL,vc,af,aM]
 refine cB (.inr rfl) ((hW.next _).push _) hl4 ?_
 rw [hF.p1]
 simp only [go_sem,aL,vc,af,aM]
 refine pS (ha) ((hW.next _).push _) hl5 ?_
 rw [hF.p1]
 try simp only [go_sem,aL,vc,af,aM]
 simp (disch:=first|assumption|omega|(simp;done)|(simp;omega)|(simp only [bt,and_true];first|done|omega|(simp;done))) [↓zmi,beq,ybc,ybd,ybe,al,wk,wk2,wk1,wkM,wkL,aG,ybf,hcl1]
theorem AM:EntOk Tryz.prog 153 (Ent.effect vF):=by
 unfold vF
 refine EntOk.effect fun args H K h=>?_
 unfold iN at h
 split at h
 rotate_left
 ·exact h.elim
 rename_i id most f' r sz' xs
 obtain ⟨q,s,l,⟨hW,rfl,rfl,rfl,ha,hl⟩,hK⟩:=h
 refine ⟨_,_,hK,?_⟩
 clear hK
 have hF:=hW.facts
 have hcl0:=fun t=>hW.closed (t:=t)
 have hid:=AHeap.get_lt hW.o
 have hq:=AHeap.get_lt hW.bu
 have hll:=gv wj hl
 obtain ⟨b,sl,sf,sa⟩:=s
 have hne:=aU hid
 have hneq:=aU hq
 have n1:(id=q)=False:=eq_false hW.ne
 have n2:(q=id)=False:=eq_false fun e=>hW.ne e.symm
 have hcs:=aI hW.o
 have hb0:=hW.bu
 have hi0:=hW.o
 have hnn:=hW.ne
 have hlb:b.length≤cR:=aF hl
 rw [bx] at hlb
 dsimp only at hcs hb0 hi0 hlb
 have lw2:=cY (l.length:Int) 2
 refine ACalls.fW aB (TblOk.cons cI (TblOk.cons Ck TblOk.nil)) Tryz.func153 [] (by rw [af];omega) (T:=ay [(2,[[],[],[],[],[],[],[],[],[4,7],[],[],[4,7]])]) (h:=fun hcl hlt=>?_)
 clear hlt
 have hcl1:=fun t=>hcl0 t hcl
 have hcm:=fun cs=>@av H id cs hid
 have hA:=fun X Y=>@cd H id q X Y hnn hid
 have hB:=fun X=>cF (X:=X) hnn hb0
 have eh:=fun X Y Z=>@cD H id q X Y Z
 have hL2:sl=true→(sl||decide ((l.length:Int) > most))=true:=fun h=>by rw [h,Bool.true_or]
 have hL3:sl=false→decide ((l.length:Int) > most)=(sl||decide ((l.length:Int) > most)):=fun h=>by rw [h,Bool.false_or]
 have hst:=gx (H:=H) (id:=id) (q:=q) (b:=b) (sl:=sl) (sf:=sf) (sa:=sa) (n:=l.length) (most:=most)
 have hS1:=hW.next ((⟨b,sl,sf,sa⟩:Enc).add (cC l.length most))
 have htot:(((⟨b,sl,sf,sa⟩:Enc).add (cC l.length most)).add (bP jn l))=(⟨b,sl,sf,sa⟩:Enc).add (aT jn most l):=by rw [ap];rfl
 rw [← htot] at hl ⊢
 generalize ((⟨b,sl,sf,sa⟩:Enc).add (cC l.length most))=s1 at *
 generalize (sl||decide ((l.length:Int) > most))=L at *
 have hlv:∀ n,(AV.slice .any 6 (l.map (aL))).lt n:=fun n=>aa (fun x=>bZ x)
 have hlc:=fun n=>@fx n most 237 r
 cases sl
 case' true =>
  rw [hL2 rfl] at hst
  simp only [go_sem,byq,hne,hneq,n1,n2,hcs,hcm,hA,hB,eh,hi0,hb0,ba,ybb]
 case' false =>
  simp only [go_sem,byq,hne,hneq,n1,n2,hcs,hcm,hA,hB,eh,hi0,hb0,ba,ybb,hL3 rfl]
 all_goals
  (repeat with_reducible refine And.intro (by first|assumption|decide|omega|exact ⟨by omega,by omega⟩) ?_)
  refine aA (A:=Nat) (fun k=>[(0,.ptr id 0),(4,.ptr H.nx 0),(33,.slice .any 6 (l.map (aL))),(34,.int .i64 (l.length:Int)),(35,.int .i64 (k:Int))])
   (fun k=>(swH H id q (s1.add (bP jn (l.take k)))).push (.cells (bM most 237 r))) (fun k=>k≤l.length) (fun k=>l.length - k) 0 (by omega) ?_ fun k hk=>?_
  ·rw [yar,bP,cz,hst]
   refine ⟨by simp only [zkk,zkp,zky,zkz,af];omega,by repeat first|exact .refl _|refine .push ?_ _,?_,?_,?_⟩
   ·rw [← hst];exact ag (hcl1 _) (hlc _)
   ·simp [ltF,zky,zkz,znh,zmz,hlv]
    omega
   ·simp [bf,wk2,wk1,wkM,Fr.get]
  simp only [go_sem]
  refine ai (fun hc=>?_) (fun hc=>?_)
  ·have hk':k<l.length:=by simp at hc;omega
   obtain ⟨x,hx⟩:∃ x,x=l[k]:=⟨_,rfl⟩
   have hg:=bc (f:=aL) (l:=l) (k:=k) (x:=x) (by rw [List.getElem?_eq_getElem hk',hx])
   have e5:IntKind.i64.wrap ((k:Int)+1)=((k+1:Nat):Int):=by rw [wrap_i64]<;>omega
   have hxo:=ha x (by rw [hx];exact List.getElem_mem hk')
   obtain ⟨es,hlk⟩:=cE (g:=jn) hk' hx hl
   have hSk:=hW.next (s1.add (bP jn (l.take k)))
   simp only [go_sem,Int.toNat_natCast,ybb,hg,af,aL,vc,bM,bx]
   refine ⟨by omega,?_⟩
   refine mi (c:=aL) hxo (hSk.push2 _ _) hlk ?_
   rw [hF.p2,es]
   simp only [go_sem,e5]
   refine ⟨k+1,by omega,by omega,by simp only [zkk,zkp,zky,af];omega,by repeat first|exact .refl _|refine .push ?_ _,ag (hcl1 _) (hlc _),?_,?_⟩
   ·simp [ltF,zky,af,znh,zmz,hlv]
    omega
   ·simp [bf,wk2,wk1,wkM,Fr.get]
  ·have hk':k=l.length:=by simp at hc;omega
   subst hk'
   rw [List.take_length]
   simp only [go_sem]
   refine ⟨?_,by repeat first|exact .refl _|refine .push ?_ _,hcl1 _,?_⟩
   ·simp [wk,wk2,wk1,aG]
   ·simp [znm,znp]
def ki:List AV→AHeap→(AV→Prop)→Prop
 |[],_,K=>K (.agg (bM 12 237 238))
 |_,_,_=>False
theorem wF:EntOk Tryz.prog 154 (Ent.pure ki):=by
 refine EntOk.pure fun args H K h=>?_
 unfold ki at h
 split at h
 rotate_left
 ·exact h.elim
 refine ⟨_,h,?_⟩
 refine ACalls.fW aB TblOk.nil Tryz.func154 [.cell 0 286] (Nat.le_refl _) (T:=ay []) (h:=fun hcl hlt=>?_)
 clear hlt
 simp only [go_sem,bM]
 simp (disch:=first|assumption|omega|(simp;done)|(simp;omega)|(simp only [bt,and_true];first|done|omega|(simp;done))) [↓zmi,beq,ybc,ybd,ybe,al,wk,wk2,wk1,wkM,wkL,aG,ybf,hcl,cy]
/-! Key -/
def yO:=eW (aQ) DO kE
def u7:=iN 239 3 (aQ) DO kE
theorem BC:EntOk Tryz.prog 239 (Ent.effect yO):=by
 unfold yO
 refine EntOk.effect fun args H K h=>?_
 unfold eW at h
 split at h
 rotate_left
 ·exact h.elim
 rename_i id x
 obtain ⟨q,s,a,⟨hW,rfl,ha,hl⟩,hK⟩:=h
 refine ⟨_,_,hK,?_⟩
 clear hK
 have hF:=hW.facts
 have hcl0:=hW.closed (t:=s.add (kE a))
 have hid:=AHeap.get_lt hW.o
 have hq:=AHeap.get_lt hW.bu
 refine ACalls.fW aB (TblOk.cons lK (TblOk.cons gW TblOk.nil)) Tryz.func239 [] (by rw [af];omega) (T:=ay []) (h:=fun hcl hlt=>?_)
 clear hlt
 have hcl1:=hcl0 hcl
 unfold kE at hl hcl1 ⊢
 rw [← ap,← ap] at hl hcl1 ⊢
 have hl3:=hl
 have hl2:=aF hl3
 have hl1:=aF hl2
 simp only [go_sem,aQ,af,aM]
 refine jv (ha) (hW.push _) hl1 ?_
 rw [hF.p0]
 simp only [go_sem,aQ,af,aM]
 refine cB (.inr rfl) ((hW.next _).push _) hl2 ?_
 rw [hF.p1]
 simp only [go_sem,aQ,af,aM]
 refine cB (.inl rfl) ((hW.next _).push _) hl3 ?_
 rw [hF.p1]
 try simp only [go_sem,aQ,af,aM]
 simp (disch:=first|assumption|omega|(simp;done)|(simp;omega)|(simp only [bt,and_true];first|done|omega|(simp;done))) [↓zmi,beq,ybc,ybd,ybe,al,wk,wk2,wk1,wkM,wkL,aG,ybf,hcl1]
theorem Aj:EntOk Tryz.prog 159 (Ent.effect u7):=by
 unfold u7
 refine EntOk.effect fun args H K h=>?_
 unfold iN at h
 split at h
 rotate_left
 ·exact h.elim
 rename_i id most f' r sz' xs
 obtain ⟨q,s,l,⟨hW,rfl,rfl,rfl,ha,hl⟩,hK⟩:=h
 refine ⟨_,_,hK,?_⟩
 clear hK
 have hF:=hW.facts
 have hcl0:=fun t=>hW.closed (t:=t)
 have hid:=AHeap.get_lt hW.o
 have hq:=AHeap.get_lt hW.bu
 have hll:=gv zo hl
 obtain ⟨b,sl,sf,sa⟩:=s
 have hne:=aU hid
 have hneq:=aU hq
 have n1:(id=q)=False:=eq_false hW.ne
 have n2:(q=id)=False:=eq_false fun e=>hW.ne e.symm
 have hcs:=aI hW.o
 have hb0:=hW.bu
 have hi0:=hW.o
 have hnn:=hW.ne
 have hlb:b.length≤cR:=aF hl
 rw [bx] at hlb
 dsimp only at hcs hb0 hi0 hlb
 have lw2:=cY (l.length:Int) 2
 refine ACalls.fW aB (TblOk.cons cI (TblOk.cons BC TblOk.nil)) Tryz.func159 [] (by rw [af];omega) (T:=ay [(2,[[],[],[],[],[],[],[],[],[4,7],[],[],[4,7]])]) (h:=fun hcl hlt=>?_)
 clear hlt
 have hcl1:=fun t=>hcl0 t hcl
 have hcm:=fun cs=>@av H id cs hid
 have hA:=fun X Y=>@cd H id q X Y hnn hid
 have hB:=fun X=>cF (X:=X) hnn hb0
 have eh:=fun X Y Z=>@cD H id q X Y Z
 have hL2:sl=true→(sl||decide ((l.length:Int) > most))=true:=fun h=>by rw [h,Bool.true_or]
 have hL3:sl=false→decide ((l.length:Int) > most)=(sl||decide ((l.length:Int) > most)):=fun h=>by rw [h,Bool.false_or]
 have hst:=gx (H:=H) (id:=id) (q:=q) (b:=b) (sl:=sl) (sf:=sf) (sa:=sa) (n:=l.length) (most:=most)
 have hS1:=hW.next ((⟨b,sl,sf,sa⟩:Enc).add (cC l.length most))
 have htot:(((⟨b,sl,sf,sa⟩:Enc).add (cC l.length most)).add (bP kE l))=(⟨b,sl,sf,sa⟩:Enc).add (aT kE most l):=by rw [ap];rfl
 rw [← htot] at hl ⊢
 generalize ((⟨b,sl,sf,sa⟩:Enc).add (cC l.length most))=s1 at *
 generalize (sl||decide ((l.length:Int) > most))=L at *
 have hlv:∀ n,(AV.slice .any 3 (l.map (aQ))).lt n:=fun n=>aa (fun x=>ck x)
 have hlc:=fun n=>@fx n most 239 r
 cases sl
 case' true =>
  rw [hL2 rfl] at hst
  simp only [go_sem,byq,hne,hneq,n1,n2,hcs,hcm,hA,hB,eh,hi0,hb0,ba,ybb]
 case' false =>
  simp only [go_sem,byq,hne,hneq,n1,n2,hcs,hcm,hA,hB,eh,hi0,hb0,ba,ybb,hL3 rfl]
 all_goals
  (repeat with_reducible refine And.intro (by first|assumption|decide|omega|exact ⟨by omega,by omega⟩) ?_)
  refine aA (A:=Nat) (fun k=>[(0,.ptr id 0),(4,.ptr H.nx 0),(33,.slice .any 3 (l.map (aQ))),(34,.int .i64 (l.length:Int)),(35,.int .i64 (k:Int))])
   (fun k=>(swH H id q (s1.add (bP kE (l.take k)))).push (.cells (bM most 239 r))) (fun k=>k≤l.length) (fun k=>l.length - k) 0 (by omega) ?_ fun k hk=>?_
  ·rw [yar,bP,cz,hst]
   refine ⟨by simp only [zkk,zkp,zky,zkz,af];omega,by repeat first|exact .refl _|refine .push ?_ _,?_,?_,?_⟩
   ·rw [← hst];exact ag (hcl1 _) (hlc _)
   ·simp [ltF,zky,zkz,znh,zmz,hlv]
    omega
   ·simp [bf,wk2,wk1,wkM,Fr.get]
  simp only [go_sem]
  refine ai (fun hc=>?_) (fun hc=>?_)
  ·have hk':k<l.length:=by simp at hc;omega
   obtain ⟨x,hx⟩:∃ x,x=l[k]:=⟨_,rfl⟩
   have hg:=bc (f:=aQ) (l:=l) (k:=k) (x:=x) (by rw [List.getElem?_eq_getElem hk',hx])
   have e5:IntKind.i64.wrap ((k:Int)+1)=((k+1:Nat):Int):=by rw [wrap_i64]<;>omega
   have hxo:=ha x (by rw [hx];exact List.getElem_mem hk')
   obtain ⟨es,hlk⟩:=cE (g:=kE) hk' hx hl
   have hSk:=hW.next (s1.add (bP kE (l.take k)))
   simp only [go_sem,Int.toNat_natCast,ybb,hg,af,aQ,bM,bx]
   refine ⟨by omega,?_⟩
   refine mi (c:=aQ) hxo (hSk.push2 _ _) hlk ?_
   rw [hF.p2,es]
   simp only [go_sem,e5]
   refine ⟨k+1,by omega,by omega,by simp only [zkk,zkp,zky,af];omega,by repeat first|exact .refl _|refine .push ?_ _,ag (hcl1 _) (hlc _),?_,?_⟩
   ·simp [ltF,zky,af,znh,zmz,hlv]
    omega
   ·simp [bf,wk2,wk1,wkM,Fr.get]
  ·have hk':k=l.length:=by simp at hc;omega
   subst hk'
   rw [List.take_length]
   simp only [go_sem]
   refine ⟨?_,by repeat first|exact .refl _|refine .push ?_ _,hcl1 _,?_⟩
   ·simp [wk,wk2,wk1,aG]
   ·simp [znm,znp]
def iX:List AV→AHeap→(AV→Prop)→Prop
 |[],_,K=>K (.agg (bM 4 239 240))
 |_,_,_=>False
theorem vP:EntOk Tryz.prog 160 (Ent.pure iX):=by
 refine EntOk.pure fun args H K h=>?_
 unfold iX at h
 split at h
 rotate_left
 ·exact h.elim
 refine ⟨_,h,?_⟩
 refine ACalls.fW aB TblOk.nil Tryz.func160 [.cell 0 294] (Nat.le_refl _) (T:=ay []) (h:=fun hcl hlt=>?_)
 clear hlt
 simp only [go_sem,bM]
 simp (disch:=first|assumption|omega|(simp;done)|(simp;omega)|(simp only [bt,and_true];first|done|omega|(simp;done))) [↓zmi,beq,ybc,ybd,ybe,al,wk,wk2,wk1,wkM,wkL,aG,ybf,hcl,cy]
/-! Stg -/
def yR:=eW (az) oW fa
def vB:=iN 166 2 (az) oW fa
theorem CK:EntOk Tryz.prog 166 (Ent.effect yR):=by
 unfold yR
 refine EntOk.effect fun args H K h=>?_
 unfold eW at h
 split at h
 rotate_left
 ·exact h.elim
 rename_i id x
 obtain ⟨q,s,a,⟨hW,rfl,ha,hl⟩,hK⟩:=h
 refine ⟨_,_,hK,?_⟩
 clear hK
 have hF:=hW.facts
 have hcl0:=hW.closed (t:=s.add (fa a))
 have hid:=AHeap.get_lt hW.o
 have hq:=AHeap.get_lt hW.bu
 refine ACalls.fW aB (TblOk.cons gW TblOk.nil) Tryz.func166 [] (by rw [af];omega) (T:=ay []) (h:=fun hcl hlt=>?_)
 clear hlt
 have hcl1:=hcl0 hcl
 unfold fa at hl hcl1 ⊢
 rw [← ap] at hl hcl1 ⊢
 have hl2:=hl
 have hl1:=aF hl2
 simp only [go_sem,az,af,aM]
 refine cB (.inr rfl) (hW.push _) hl1 ?_
 rw [hF.p0]
 simp only [go_sem,az,af,aM]
 refine cB (.inr rfl) ((hW.next _).push _) hl2 ?_
 rw [hF.p1]
 try simp only [go_sem,az,af,aM]
 simp (disch:=first|assumption|omega|(simp;done)|(simp;omega)|(simp only [bt,and_true];first|done|omega|(simp;done))) [↓zmi,beq,ybc,ybd,ybe,al,wk,wk2,wk1,wkM,wkL,aG,ybf,hcl1]
theorem AR:EntOk Tryz.prog 81 (Ent.effect vB):=by
 unfold vB
 refine EntOk.effect fun args H K h=>?_
 unfold iN at h
 split at h
 rotate_left
 ·exact h.elim
 rename_i id most f' r sz' xs
 obtain ⟨q,s,l,⟨hW,rfl,rfl,rfl,ha,hl⟩,hK⟩:=h
 refine ⟨_,_,hK,?_⟩
 clear hK
 have hF:=hW.facts
 have hcl0:=fun t=>hW.closed (t:=t)
 have hid:=AHeap.get_lt hW.o
 have hq:=AHeap.get_lt hW.bu
 have hll:=gv tP hl
 obtain ⟨b,sl,sf,sa⟩:=s
 have hne:=aU hid
 have hneq:=aU hq
 have n1:(id=q)=False:=eq_false hW.ne
 have n2:(q=id)=False:=eq_false fun e=>hW.ne e.symm
 have hcs:=aI hW.o
 have hb0:=hW.bu
 have hi0:=hW.o
 have hnn:=hW.ne
 have hlb:b.length≤cR:=aF hl
 rw [bx] at hlb
 dsimp only at hcs hb0 hi0 hlb
 have lw2:=cY (l.length:Int) 2
 refine ACalls.fW aB (TblOk.cons cI (TblOk.cons CK TblOk.nil)) Tryz.func81 [] (by rw [af];omega) (T:=ay [(2,[[],[],[],[],[],[],[],[],[4,7],[],[],[4,7]])]) (h:=fun hcl hlt=>?_)
 clear hlt
 have hcl1:=fun t=>hcl0 t hcl
 have hcm:=fun cs=>@av H id cs hid
 have hA:=fun X Y=>@cd H id q X Y hnn hid
 have hB:=fun X=>cF (X:=X) hnn hb0
 have eh:=fun X Y Z=>@cD H id q X Y Z
 have hL2:sl=true→(sl||decide ((l.length:Int) > most))=true:=fun h=>by rw [h,Bool.true_or]
 have hL3:sl=false→decide ((l.length:Int) > most)=(sl||decide ((l.length:Int) > most)):=fun h=>by rw [h,Bool.false_or]
 have hst:=gx (H:=H) (id:=id) (q:=q) (b:=b) (sl:=sl) (sf:=sf) (sa:=sa) (n:=l.length) (most:=most)
 have hS1:=hW.next ((⟨b,sl,sf,sa⟩:Enc).add (cC l.length most))
 have htot:(((⟨b,sl,sf,sa⟩:Enc).add (cC l.length most)).add (bP fa l))=(⟨b,sl,sf,sa⟩:Enc).add (aT fa most l):=by rw [ap];rfl
 rw [← htot] at hl ⊢
 generalize ((⟨b,sl,sf,sa⟩:Enc).add (cC l.length most))=s1 at *
 generalize (sl||decide ((l.length:Int) > most))=L at *
 have hlv:∀ n,(AV.slice .any 2 (l.map (az))).lt n:=fun n=>aa (fun x=>bN x)
 have hlc:=fun n=>@fx n most 166 r
 cases sl
 case' true =>
  rw [hL2 rfl] at hst
  simp only [go_sem,byq,hne,hneq,n1,n2,hcs,hcm,hA,hB,eh,hi0,hb0,ba,ybb]
 case' false =>
  simp only [go_sem,byq,hne,hneq,n1,n2,hcs,hcm,hA,hB,eh,hi0,hb0,ba,ybb,hL3 rfl]
 all_goals
  (repeat with_reducible refine And.intro (by first|assumption|decide|omega|exact ⟨by omega,by omega⟩) ?_)
  refine aA (A:=Nat) (fun k=>[(0,.ptr id 0),(4,.ptr H.nx 0),(33,.slice .any 2 (l.map (az))),(34,.int .i64 (l.length:Int)),(35,.int .i64 (k:Int))])
   (fun k=>(swH H id q (s1.add (bP fa (l.take k)))).push (.cells (bM most 166 r))) (fun k=>k≤l.length) (fun k=>l.length - k) 0 (by omega) ?_ fun k hk=>?_
  ·rw [yar,bP,cz,hst]
   refine ⟨by simp only [zkk,zkp,zky,zkz,af];omega,by repeat first|exact .refl _|refine .push ?_ _,?_,?_,?_⟩
   ·rw [← hst];exact ag (hcl1 _) (hlc _)
   ·simp [ltF,zky,zkz,znh,zmz,hlv]
    omega
   ·simp [bf,wk2,wk1,wkM,Fr.get]
  simp only [go_sem]
  refine ai (fun hc=>?_) (fun hc=>?_)
  ·have hk':k<l.length:=by simp at hc;omega
   obtain ⟨x,hx⟩:∃ x,x=l[k]:=⟨_,rfl⟩
   have hg:=bc (f:=az) (l:=l) (k:=k) (x:=x) (by rw [List.getElem?_eq_getElem hk',hx])
   have e5:IntKind.i64.wrap ((k:Int)+1)=((k+1:Nat):Int):=by rw [wrap_i64]<;>omega
   have hxo:=ha x (by rw [hx];exact List.getElem_mem hk')
   obtain ⟨es,hlk⟩:=cE (g:=fa) hk' hx hl
   have hSk:=hW.next (s1.add (bP fa (l.take k)))
   simp only [go_sem,Int.toNat_natCast,ybb,hg,af,az,bM,bx]
   refine ⟨by omega,?_⟩
   refine mi (c:=az) hxo (hSk.push2 _ _) hlk ?_
   rw [hF.p2,es]
   simp only [go_sem,e5]
   refine ⟨k+1,by omega,by omega,by simp only [zkk,zkp,zky,af];omega,by repeat first|exact .refl _|refine .push ?_ _,ag (hcl1 _) (hlc _),?_,?_⟩
   ·simp [ltF,zky,af,znh,zmz,hlv]
    omega
   ·simp [bf,wk2,wk1,wkM,Fr.get]
  ·have hk':k=l.length:=by simp at hc;omega
   subst hk'
   rw [List.take_length]
   simp only [go_sem]
   refine ⟨?_,by repeat first|exact .refl _|refine .push ?_ _,hcl1 _,?_⟩
   ·simp [wk,wk2,wk1,aG]
   ·simp [znm,znp]
def io:List AV→AHeap→(AV→Prop)→Prop
 |[],_,K=>K (.agg (bM 12 166 167))
 |_,_,_=>False
theorem rJ:EntOk Tryz.prog 56 (Ent.pure io):=by
 refine EntOk.pure fun args H K h=>?_
 unfold io at h
 split at h
 rotate_left
 ·exact h.elim
 refine ⟨_,h,?_⟩
 refine ACalls.fW aB TblOk.nil Tryz.func56 [.cell 0 141] (Nat.le_refl _) (T:=ay []) (h:=fun hcl hlt=>?_)
 clear hlt
 simp only [go_sem,bM]
 simp (disch:=first|assumption|omega|(simp;done)|(simp;omega)|(simp only [bt,and_true];first|done|omega|(simp;done))) [↓zmi,beq,ybc,ybd,ybe,al,wk,wk2,wk1,wkM,wkL,aG,ybf,hcl,cy]
/-! Ref -/
def yU:=eW (aR) oW kF
def vZ:=iN 175 6 (aR) oW kF
theorem BP:EntOk Tryz.prog 175 (Ent.effect yU):=by
 unfold yU
 refine EntOk.effect fun args H K h=>?_
 unfold eW at h
 split at h
 rotate_left
 ·exact h.elim
 rename_i id x
 obtain ⟨q,s,a,⟨hW,rfl,ha,hl⟩,hK⟩:=h
 refine ⟨_,_,hK,?_⟩
 clear hK
 have hF:=hW.facts
 have hcl0:=hW.closed (t:=s.add (kF a))
 have hid:=AHeap.get_lt hW.o
 have hq:=AHeap.get_lt hW.bu
 refine ACalls.fW aB (TblOk.cons gW TblOk.nil) Tryz.func175 [] (by rw [af];omega) (T:=ay []) (h:=fun hcl hlt=>?_)
 clear hlt
 have hcl1:=hcl0 hcl
 unfold kF at hl hcl1 ⊢
 rw [← ap,← ap,← ap,← ap,← ap] at hl hcl1 ⊢
 have hl6:=hl
 have hl5:=aF hl6
 have hl4:=aF hl5
 have hl3:=aF hl4
 have hl2:=aF hl3
 have hl1:=aF hl2
 simp only [go_sem,aR,af,aM]
 refine cB (.inr rfl) (hW.push _) hl1 ?_
 rw [hF.p0]
 simp only [go_sem,aR,af,aM]
 refine cB (.inl rfl) ((hW.next _).push _) hl2 ?_
 rw [hF.p1]
 simp only [go_sem,aR,af,aM]
 refine cB (.inr rfl) ((hW.next _).push _) hl3 ?_
 rw [hF.p1]
 simp only [go_sem,aR,af,aM]
 refine cB (.inl rfl) ((hW.next _).push _) hl4 ?_
 rw [hF.p1]
 simp only [go_sem,aR,af,aM]
 refine cB (.inr rfl) ((hW.next _).push _) hl5 ?_
 rw [hF.p1]
 simp only [go_sem,aR,af,aM]
 refine cB (.inl rfl) ((hW.next _).push _) hl6 ?_
 rw [hF.p1]
 try simp only [go_sem,aR,af,aM]
 simp (disch:=first|assumption|omega|(simp;done)|(simp;omega)|(simp only [bt,and_true];first|done|omega|(simp;done))) [↓zmi,beq,ybc,ybd,ybe,al,wk,wk2,wk1,wkM,wkL,aG,ybf,hcl1]
theorem zC:EntOk Tryz.prog 83 (Ent.effect vZ):=by
 unfold vZ
 refine EntOk.effect fun args H K h=>?_
 unfold iN at h
 split at h
 rotate_left
 ·exact h.elim
 rename_i id most f' r sz' xs
 obtain ⟨q,s,l,⟨hW,rfl,rfl,rfl,ha,hl⟩,hK⟩:=h
 refine ⟨_,_,hK,?_⟩
 clear hK
 have hF:=hW.facts
 have hcl0:=fun t=>hW.closed (t:=t)
 have hid:=AHeap.get_lt hW.o
 have hq:=AHeap.get_lt hW.bu
 have hll:=gv zc hl
 obtain ⟨b,sl,sf,sa⟩:=s
 have hne:=aU hid
 have hneq:=aU hq
 have n1:(id=q)=False:=eq_false hW.ne
 have n2:(q=id)=False:=eq_false fun e=>hW.ne e.symm
 have hcs:=aI hW.o
 have hb0:=hW.bu
 have hi0:=hW.o
 have hnn:=hW.ne
 have hlb:b.length≤cR:=aF hl
 rw [bx] at hlb
 dsimp only at hcs hb0 hi0 hlb
 have lw2:=cY (l.length:Int) 2
 refine ACalls.fW aB (TblOk.cons cI (TblOk.cons BP TblOk.nil)) Tryz.func83 [] (by rw [af];omega) (T:=ay [(2,[[],[],[],[],[],[],[],[],[4,7],[],[],[4,7]])]) (h:=fun hcl hlt=>?_)
 clear hlt
 have hcl1:=fun t=>hcl0 t hcl
 have hcm:=fun cs=>@av H id cs hid
 have hA:=fun X Y=>@cd H id q X Y hnn hid
 have hB:=fun X=>cF (X:=X) hnn hb0
 have eh:=fun X Y Z=>@cD H id q X Y Z
 have hL2:sl=true→(sl||decide ((l.length:Int) > most))=true:=fun h=>by rw [h,Bool.true_or]
 have hL3:sl=false→decide ((l.length:Int) > most)=(sl||decide ((l.length:Int) > most)):=fun h=>by rw [h,Bool.false_or]
 have hst:=gx (H:=H) (id:=id) (q:=q) (b:=b) (sl:=sl) (sf:=sf) (sa:=sa) (n:=l.length) (most:=most)
 have hS1:=hW.next ((⟨b,sl,sf,sa⟩:Enc).add (cC l.length most))
 have htot:(((⟨b,sl,sf,sa⟩:Enc).add (cC l.length most)).add (bP kF l))=(⟨b,sl,sf,sa⟩:Enc).add (aT kF most l):=by rw [ap];rfl
 rw [← htot] at hl ⊢
 generalize ((⟨b,sl,sf,sa⟩:Enc).add (cC l.length most))=s1 at *
 generalize (sl||decide ((l.length:Int) > most))=L at *
 have hlv:∀ n,(AV.slice .any 6 (l.map (aR))).lt n:=fun n=>aa (fun x=>cn x)
 have hlc:=fun n=>@fx n most 175 r
 cases sl
 case' true =>
  rw [hL2 rfl] at hst
  simp only [go_sem,byq,hne,hneq,n1,n2,hcs,hcm,hA,hB,eh,hi0,hb0,ba,ybb]
 case' false =>
  simp only [go_sem,byq,hne,hneq,n1,n2,hcs,hcm,hA,hB,eh,hi0,hb0,ba,ybb,hL3 rfl]
 all_goals
  (repeat with_reducible refine And.intro (by first|assumption|decide|omega|exact ⟨by omega,by omega⟩) ?_)
  refine aA (A:=Nat) (fun k=>[(0,.ptr id 0),(4,.ptr H.nx 0),(33,.slice .any 6 (l.map (aR))),(34,.int .i64 (l.length:Int)),(35,.int .i64 (k:Int))])
   (fun k=>(swH H id q (s1.add (bP kF (l.take k)))).push (.cells (bM most 175 r))) (fun k=>k≤l.length) (fun k=>l.length - k) 0 (by omega) ?_ fun k hk=>?_
  ·rw [yar,bP,cz,hst]
   refine ⟨by simp only [zkk,zkp,zky,zkz,af];omega,by repeat first|exact .refl _|refine .push ?_ _,?_,?_,?_⟩
   ·rw [← hst];exact ag (hcl1 _) (hlc _)
   ·simp [ltF,zky,zkz,znh,zmz,hlv]
    omega
   ·simp [bf,wk2,wk1,wkM,Fr.get]
  simp only [go_sem]
  refine ai (fun hc=>?_) (fun hc=>?_)
  ·have hk':k<l.length:=by simp at hc;omega
   obtain ⟨x,hx⟩:∃ x,x=l[k]:=⟨_,rfl⟩
   have hg:=bc (f:=aR) (l:=l) (k:=k) (x:=x) (by rw [List.getElem?_eq_getElem hk',hx])
   have e5:IntKind.i64.wrap ((k:Int)+1)=((k+1:Nat):Int):=by rw [wrap_i64]<;>omega
   have hxo:=ha x (by rw [hx];exact List.getElem_mem hk')
   obtain ⟨es,hlk⟩:=cE (g:=kF) hk' hx hl
   have hSk:=hW.next (s1.add (bP kF (l.take k)))
   simp only [go_sem,Int.toNat_natCast,ybb,hg,af,aR,bM,bx]
   refine ⟨by omega,?_⟩
   refine mi (c:=aR) hxo (hSk.push2 _ _) hlk ?_
   rw [hF.p2,es]
   simp only [go_sem,e5]
   refine ⟨k+1,by omega,by omega,by simp only [zkk,zkp,zky,af];omega,by repeat first|exact .refl _|refine .push ?_ _,ag (hcl1 _) (hlc _),?_,?_⟩
   ·simp [ltF,zky,af,znh,zmz,hlv]
    omega
   ·simp [bf,wk2,wk1,wkM,Fr.get]
  ·have hk':k=l.length:=by simp at hc;omega
   subst hk'
   rw [List.take_length]
   simp only [go_sem]
   refine ⟨?_,by repeat first|exact .refl _|refine .push ?_ _,hcl1 _,?_⟩
   ·simp [wk,wk2,wk1,aG]
   ·simp [znm,znp]
def ic:List AV→AHeap→(AV→Prop)→Prop
 |[],_,K=>K (.agg (bM 8 175 176))
 |_,_,_=>False
theorem sv:EntOk Tryz.prog 60 (Ent.pure ic):=by
 refine EntOk.pure fun args H K h=>?_
 unfold ic at h
 split at h
 rotate_left
 ·exact h.elim
 refine ⟨_,h,?_⟩
 refine ACalls.fW aB TblOk.nil Tryz.func60 [.cell 0 153] (Nat.le_refl _) (T:=ay []) (h:=fun hcl hlt=>?_)
 clear hlt
 simp only [go_sem,bM]
 simp (disch:=first|assumption|omega|(simp;done)|(simp;omega)|(simp only [bt,and_true];first|done|omega|(simp;done))) [↓zmi,beq,ybc,ybd,ybe,al,wk,wk2,wk1,wkM,wkL,aG,ybf,hcl,cy]
end Go.AL
