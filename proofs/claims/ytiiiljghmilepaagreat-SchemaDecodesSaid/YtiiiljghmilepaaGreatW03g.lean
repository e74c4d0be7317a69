/- Contracts and plain laws, a part of the proof; no condition of its own. -/
import Derived.Test.YtiiiljghmilepaaGreatW03e
set_option maxHeartbeats 32000000
open List renaming length_cons → yaz, length_nil → yba, take_of_length_le → ybc, drop_append → ybd, take_append → ybe, drop_eq_nil_of_le → ybf, length_map → ybb, take_zero → yar
open Go Go.AL Go.Proofs
namespace Go.AL
set_option linter.all false
set_option maxRecDepth 10000
theorem AB:ti Tryz.prog 114=some ⟨.struct [(0,3,false),(1,111,false),(2,112,false)],3,24,.agg [.int .i64 0,.nilf,.nilf]⟩:=by kernel_rfl
theorem CU:ti Tryz.prog 111=some ⟨.func,1,8,.nilf⟩:=by kernel_rfl
theorem Db:ti Tryz.prog 112=some ⟨.func,1,8,.nilf⟩:=by kernel_rfl
theorem zP:ti Tryz.prog 123=some ⟨.struct [(0,3,false),(1,120,false),(2,121,false)],3,24,.agg [.int .i64 0,.nilf,.nilf]⟩:=by kernel_rfl
theorem DI:ti Tryz.prog 120=some ⟨.func,1,8,.nilf⟩:=by kernel_rfl
theorem Ce:ti Tryz.prog 121=some ⟨.func,1,8,.nilf⟩:=by kernel_rfl
theorem zD:ti Tryz.prog 129=some ⟨.struct [(0,3,false),(1,126,false),(2,127,false)],3,24,.agg [.int .i64 0,.nilf,.nilf]⟩:=by kernel_rfl
theorem CY:ti Tryz.prog 126=some ⟨.func,1,8,.nilf⟩:=by kernel_rfl
theorem CI:ti Tryz.prog 127=some ⟨.func,1,8,.nilf⟩:=by kernel_rfl
theorem AF:ti Tryz.prog 308=some ⟨.struct [(0,3,false),(1,305,false),(2,306,false)],3,24,.agg [.int .i64 0,.nilf,.nilf]⟩:=by kernel_rfl
theorem D9:ti Tryz.prog 305=some ⟨.func,1,8,.nilf⟩:=by kernel_rfl
theorem DH:ti Tryz.prog 306=some ⟨.func,1,8,.nilf⟩:=by kernel_rfl
attribute [go_sem] AB CU Db zP DI Ce zD CY CI AF D9 DH
/-! Hdr -/
def yY:=eW (aj) rc dm
def vV:=iN 140 3 (aj) rc dm
theorem CB:EntOk Tryz.prog 140 (Ent.effect yY):=by
 unfold yY
 refine EntOk.effect fun args H K h=>?_
 unfold eW at h
 split at h
 rotate_left
 ·exact h.elim
 rename_i id x
 obtain ⟨q,s,a,⟨hW,rfl,ha,hl⟩,hK⟩:=h
 refine ⟨_,_,hK,?_⟩
 clear hK
 have hF:=hW.facts
 have hcl0:=hW.closed (t:=s.add (dm a))
 have hid:=AHeap.get_lt hW.o
 have hq:=AHeap.get_lt hW.bu
 refine ACalls.fW aB (TblOk.cons gW (TblOk.cons lK (TblOk.cons ln (TblOk.cons pK TblOk.nil)))) Tryz.func140 [] (by rw [af];omega) (T:=ay [(3,[[],[],[],[],[1,3]])]) (h:=fun hcl hlt=>?_)
 clear hlt
 have hcl1:=hcl0 hcl
 unfold dm at hl hcl1 ⊢
 rw [← ap,← ap] at hl hcl1 ⊢
 have hl3:=hl
 have hl2:=aF hl3
 have hl1:=aF hl2
 simp only [go_sem,aj,dY,inL,af,aM]
 refine cB (.inr rfl) (hW.push _) hl1 ?_
 rw [hF.p0]
 simp only [go_sem,aj,dY,inL,af,aM]
 refine jv (ha) ((hW.next _).push _) hl2 ?_
 rw [hF.p1]
 simp only [go_sem,aj,dY,inL,af,aM]
 refine jy (c:=.int .i64) (fun _ _=>trivial) ((hW.next _).push _) hl3 ?_
 rw [hF.p1]
 try simp only [go_sem,aj,dY,inL,af,aM]
 simp (disch:=first|assumption|omega|(simp;done)|(simp;omega)|(simp only [bt,and_true];first|done|omega|(simp;done))) [↓zmi,beq,ybc,ybd,ybe,al,wk,wk2,wk1,wkM,wkL,aG,ybf,hcl1]
theorem AA:EntOk Tryz.prog 77 (Ent.effect vV):=by
 unfold vV
 refine EntOk.effect fun args H K h=>?_
 unfold iN at h
 split at h
 rotate_left
 ·exact h.elim
 rename_i id most f' r sz' xs
 obtain ⟨q,s,l,⟨hW,rfl,rfl,rfl,ha,hl⟩,hK⟩:=h
 refine ⟨_,_,hK,?_⟩
 clear hK
 have hF:=hW.facts
 have hcl0:=fun t=>hW.closed (t:=t)
 have hid:=AHeap.get_lt hW.o
 have hq:=AHeap.get_lt hW.bu
 have hll:=gv sn hl
 obtain ⟨b,sl,sf,sa⟩:=s
 have hne:=aU hid
 have hneq:=aU hq
 have n1:(id=q)=False:=eq_false hW.ne
 have n2:(q=id)=False:=eq_false fun e=>hW.ne e.symm
 have hcs:=aI hW.o
 have hb0:=hW.bu
 have hi0:=hW.o
 have hnn:=hW.ne
 have hlb:b.length≤cR:=aF hl
 rw [bx] at hlb
 dsimp only at hcs hb0 hi0 hlb
 have lw2:=cY (l.length:Int) 2
 refine ACalls.fW aB (TblOk.cons cI (TblOk.cons CB TblOk.nil)) Tryz.func77 [] (by rw [af];omega) (T:=ay [(2,[[],[],[],[],[],[],[],[],[4,7],[],[],[4,7]])]) (h:=fun hcl hlt=>?_)
 clear hlt
 have hcl1:=fun t=>hcl0 t hcl
 have hcm:=fun cs=>@av H id cs hid
 have hA:=fun X Y=>@cd H id q X Y hnn hid
 have hB:=fun X=>cF (X:=X) hnn hb0
 have eh:=fun X Y Z=>@cD H id q X Y Z
 have hL2:sl=true→(sl||decide ((l.length:Int) > most))=true:=fun h=>by rw [h,Bool.true_or]
 have hL3:sl=false→decide ((l.length:Int) > most)=(sl||decide ((l.length:Int) > most)):=fun h=>by rw [h,Bool.false_or]
 have hst:=gx (H:=H) (id:=id) (q:=q) (b:=b) (sl:=sl) (sf:=sf) (sa:=sa) (n:=l.length) (most:=most)
 have hS1:=hW.next ((⟨b,sl,sf,sa⟩:Enc).add (cC l.length most))
 have htot:(((⟨b,sl,sf,sa⟩:Enc).add (cC l.length most)).add (bP dm l))=(⟨b,sl,sf,sa⟩:Enc).add (aT dm most l):=by rw [ap];rfl
 rw [← htot] at hl ⊢
 generalize ((⟨b,sl,sf,sa⟩:Enc).add (cC l.length most))=s1 at *
 generalize (sl||decide ((l.length:Int) > most))=L at *
 have hlv:∀ n,(AV.slice .any 3 (l.map (aj))).lt n:=fun n=>aa (fun x=>bg x)
 have hlc:=fun n=>@fx n most 140 r
 cases sl
 case' true =>
  rw [hL2 rfl] at hst
  simp only [go_sem,byq,hne,hneq,n1,n2,hcs,hcm,hA,hB,eh,hi0,hb0,ba,ybb]
 case' false =>
  simp only [go_sem,byq,hne,hneq,n1,n2,hcs,hcm,hA,hB,eh,hi0,hb0,ba,ybb,hL3 rfl]
 all_goals
  (repeat with_reducible refine And.intro (by first|assumption|decide|omega|exact ⟨by omega,by omega⟩) ?_)
  refine aA (A:=Nat) (fun k=>[(0,.ptr id 0),(4,.ptr H.nx 0),(33,.slice .any 3 (l.map (aj))),(34,.int .i64 (l.length:Int)),(35,.int .i64 (k:Int))])
   (fun k=>(swH H id q (s1.add (bP dm (l.take k)))).push (.cells (bM most 140 r))) (fun k=>k≤l.length) (fun k=>l.length - k) 0 (by omega) ?_ fun k hk=>?_
  ·rw [yar,bP,cz,hst]
   refine ⟨by simp only [zkk,zkp,zky,zkz,af];omega,by repeat first|exact .refl _|refine .push ?_ _,?_,?_,?_⟩
   ·rw [← hst];exact ag (hcl1 _) (hlc _)
   ·simp [ltF,zky,zkz,znh,zmz,hlv]
    omega
   ·simp [bf,wk2,wk1,wkM,Fr.get]
  simp only [go_sem]
  refine ai (fun hc=>?_) (fun hc=>?_)
  ·have hk':k<l.length:=by simp at hc;omega
   obtain ⟨x,hx⟩:∃ x,x=l[k]:=⟨_,rfl⟩
   have hg:=bc (f:=aj) (l:=l) (k:=k) (x:=x) (by rw [List.getElem?_eq_getElem hk',hx])
   have e5:IntKind.i64.wrap ((k:Int)+1)=((k+1:Nat):Int):=by rw [wrap_i64]<;>omega
   have hxo:=ha x (by rw [hx];exact List.getElem_mem hk')
   obtain ⟨es,hlk⟩:=cE (g:=dm) hk' hx hl
   have hSk:=hW.next (s1.add (bP dm (l.take k)))
   simp only [go_sem,Int.toNat_natCast,ybb,hg,af,aj,bM,bx]
   refine ⟨by omega,?_⟩
   refine mi (c:=aj) hxo (hSk.push2 _ _) hlk ?_
   rw [hF.p2,es]
   simp only [go_sem,e5]
   refine ⟨k+1,by omega,by omega,by simp only [zkk,zkp,zky,af];omega,by repeat first|exact .refl _|refine .push ?_ _,ag (hcl1 _) (hlc _),?_,?_⟩
   ·simp [ltF,zky,af,znh,zmz,hlv]
    omega
   ·simp [bf,wk2,wk1,wkM,Fr.get]
  ·have hk':k=l.length:=by simp at hc;omega
   subst hk'
   rw [List.take_length]
   simp only [go_sem]
   refine ⟨?_,by repeat first|exact .refl _|refine .push ?_ _,hcl1 _,?_⟩
   ·simp [wk,wk2,wk1,aG]
   ·simp [znm,znp]
def ip:List AV→AHeap→(AV→Prop)→Prop
 |[],_,K=>K (.agg (bM 8 140 143))
 |_,_,_=>False
theorem qY:EntOk Tryz.prog 48 (Ent.pure ip):=by
 refine EntOk.pure fun args H K h=>?_
 unfold ip at h
 split at h
 rotate_left
 ·exact h.elim
 refine ⟨_,h,?_⟩
 refine ACalls.fW aB TblOk.nil Tryz.func48 [.cell 0 114] (Nat.le_refl _) (T:=ay []) (h:=fun hcl hlt=>?_)
 clear hlt
 simp only [go_sem,bM]
 simp (disch:=first|assumption|omega|(simp;done)|(simp;omega)|(simp only [bt,and_true];first|done|omega|(simp;done))) [↓zmi,beq,ybc,ybd,ybe,al,wk,wk2,wk1,wkM,wkL,aG,ybf,hcl,cy]
/-! Sta -/
def zp:=eW (ak) uu fk
def wi:=iN 145 5 (ak) uu fk
theorem Bu:EntOk Tryz.prog 145 (Ent.effect zp):=by
 unfold zp
 refine EntOk.effect fun args H K h=>?_
 unfold eW at h
 split at h
 rotate_left
 ·exact h.elim
 rename_i id x
 obtain ⟨q,s,a,⟨hW,rfl,ha,hl⟩,hK⟩:=h
 refine ⟨_,_,hK,?_⟩
 clear hK
 have hF:=hW.facts
 have hcl0:=hW.closed (t:=s.add (fk a))
 have hid:=AHeap.get_lt hW.o
 have hq:=AHeap.get_lt hW.bu
 refine ACalls.fW aB (TblOk.cons gW (TblOk.cons wq (TblOk.cons z6 TblOk.nil))) Tryz.func145 [] (by rw [af];omega) (T:=ay [(4,[[],[],[],[],[1,3]])]) (h:=fun hcl hlt=>?_)
 clear hlt
 have hcl1:=hcl0 hcl
 unfold fk at hl hcl1 ⊢
 rw [← ap,← ap,← ap,← ap] at hl hcl1 ⊢
 have hl5:=hl
 have hl4:=aF hl5
 have hl3:=aF hl4
 have hl2:=aF hl3
 have hl1:=aF hl2
 simp only [go_sem,ak,ke,af,aM]
 refine cB (.inr rfl) (hW.push _) hl1 ?_
 rw [hF.p0]
 simp only [go_sem,ak,ke,af,aM]
 refine cB (.inr rfl) ((hW.next _).push _) hl2 ?_
 rw [hF.p1]
 simp only [go_sem,ak,ke,af,aM]
 refine cB (.inr rfl) ((hW.next _).push _) hl3 ?_
 rw [hF.p1]
 simp only [go_sem,ak,ke,af,aM]
 refine jy (c:=aK) (ha) ((hW.next _).push _) hl4 ?_
 rw [hF.p1]
 simp only [go_sem,ak,ke,af,aM]
 refine cB (.inr rfl) ((hW.next _).push _) hl5 ?_
 rw [hF.p1]
 try simp only [go_sem,ak,ke,af,aM]
 simp (disch:=first|assumption|omega|(simp;done)|(simp;omega)|(simp only [bt,and_true];first|done|omega|(simp;done))) [↓zmi,beq,ybc,ybd,ybe,al,wk,wk2,wk1,wkM,wkL,aG,ybf,hcl1]
theorem A8:EntOk Tryz.prog 78 (Ent.effect wi):=by
 unfold wi
 refine EntOk.effect fun args H K h=>?_
 unfold iN at h
 split at h
 rotate_left
 ·exact h.elim
 rename_i id most f' r sz' xs
 obtain ⟨q,s,l,⟨hW,rfl,rfl,rfl,ha,hl⟩,hK⟩:=h
 refine ⟨_,_,hK,?_⟩
 clear hK
 have hF:=hW.facts
 have hcl0:=fun t=>hW.closed (t:=t)
 have hid:=AHeap.get_lt hW.o
 have hq:=AHeap.get_lt hW.bu
 have hll:=gv tE hl
 obtain ⟨b,sl,sf,sa⟩:=s
 have hne:=aU hid
 have hneq:=aU hq
 have n1:(id=q)=False:=eq_false hW.ne
 have n2:(q=id)=False:=eq_false fun e=>hW.ne e.symm
 have hcs:=aI hW.o
 have hb0:=hW.bu
 have hi0:=hW.o
 have hnn:=hW.ne
 have hlb:b.length≤cR:=aF hl
 rw [bx] at hlb
 dsimp only at hcs hb0 hi0 hlb
 have lw2:=cY (l.length:Int) 2
 refine ACalls.fW aB (TblOk.cons cI (TblOk.cons Bu TblOk.nil)) Tryz.func78 [] (by rw [af];omega) (T:=ay [(2,[[],[],[],[],[],[],[],[],[4,7],[],[],[4,7]])]) (h:=fun hcl hlt=>?_)
 clear hlt
 have hcl1:=fun t=>hcl0 t hcl
 have hcm:=fun cs=>@av H id cs hid
 have hA:=fun X Y=>@cd H id q X Y hnn hid
 have hB:=fun X=>cF (X:=X) hnn hb0
 have eh:=fun X Y Z=>@cD H id q X Y Z
 have hL2:sl=true→(sl||decide ((l.length:Int) > most))=true:=fun h=>by rw [h,Bool.true_or]
 have hL3:sl=false→decide ((l.length:Int) > most)=(sl||decide ((l.length:Int) > most)):=fun h=>by rw [h,Bool.false_or]
 have hst:=gx (H:=H) (id:=id) (q:=q) (b:=b) (sl:=sl) (sf:=sf) (sa:=sa) (n:=l.length) (most:=most)
 have hS1:=hW.next ((⟨b,sl,sf,sa⟩:Enc).add (cC l.length most))
 have htot:(((⟨b,sl,sf,sa⟩:Enc).add (cC l.length most)).add (bP fk l))=(⟨b,sl,sf,sa⟩:Enc).add (aT fk most l):=by rw [ap];rfl
 rw [← htot] at hl ⊢
 generalize ((⟨b,sl,sf,sa⟩:Enc).add (cC l.length most))=s1 at *
 generalize (sl||decide ((l.length:Int) > most))=L at *
 have hlv:∀ n,(AV.slice .any 5 (l.map (ak))).lt n:=fun n=>aa (fun x=>bk x)
 have hlc:=fun n=>@fx n most 145 r
 cases sl
 case' true =>
  rw [hL2 rfl] at hst
  simp only [go_sem,byq,hne,hneq,n1,n2,hcs,hcm,hA,hB,eh,hi0,hb0,ba,ybb]
 case' false =>
  simp only [go_sem,byq,hne,hneq,n1,n2,hcs,hcm,hA,hB,eh,hi0,hb0,ba,ybb,hL3 rfl]
 all_goals
  (repeat with_reducible refine And.intro (by first|assumption|decide|omega|exact ⟨by omega,by omega⟩) ?_)
  refine aA (A:=Nat) (fun k=>[(0,.ptr id 0),(4,.ptr H.nx 0),(33,.slice .any 5 (l.map (ak))),(34,.int .i64 (l.length:Int)),(35,.int .i64 (k:Int))])
   (fun k=>(swH H id q (s1.add (bP fk (l.take k)))).push (.cells (bM most 145 r))) (fun k=>k≤l.length) (fun k=>l.length - k) 0 (by omega) ?_ fun k hk=>?_
  ·rw [yar,bP,cz,hst]
   refine ⟨by simp only [zkk,zkp,zky,zkz,af];omega,by repeat first|exact .refl _|refine .push ?_ _,?_,?_,?_⟩
   ·rw [← hst];exact ag (hcl1 _) (hlc _)
   ·simp [ltF,zky,zkz,znh,zmz,hlv]
    omega
   ·simp [bf,wk2,wk1,wkM,Fr.get]
  simp only [go_sem]
  refine ai (fun hc=>?_) (fun hc=>?_)
  ·have hk':k<l.length:=by simp at hc;omega
   obtain ⟨x,hx⟩:∃ x,x=l[k]:=⟨_,rfl⟩
   have hg:=bc (f:=ak) (l:=l) (k:=k) (x:=x) (by rw [List.getElem?_eq_getElem hk',hx])
   have e5:IntKind.i64.wrap ((k:Int)+1)=((k+1:Nat):Int):=by rw [wrap_i64]<;>omega
   have hxo:=ha x (by rw [hx];exact List.getElem_mem hk')
   obtain ⟨es,hlk⟩:=cE (g:=fk) hk' hx hl
   have hSk:=hW.next (s1.add (bP fk (l.take k)))
   simp only [go_sem,Int.toNat_natCast,ybb,hg,af,ak,bM,bx]
   refine ⟨by omega,?_⟩
   refine mi (c:=ak) hxo (hSk.push2 _ _) hlk ?_
   rw [hF.p2,es]
   simp only [go_sem,e5]
   refine ⟨k+1,by omega,by omega,by simp only [zkk,zkp,zky,af];omega,by repeat first|exact .refl _|refine .push ?_ _,ag (hcl1 _) (hlc _),?_,?_⟩
   ·simp [ltF,zky,af,znh,zmz,hlv]
    omega
   ·simp [bf,wk2,wk1,wkM,Fr.get]
  ·have hk':k=l.length:=by simp at hc;omega
   subst hk'
   rw [List.take_length]
   simp only [go_sem]
   refine ⟨?_,by repeat first|exact .refl _|refine .push ?_ _,hcl1 _,?_⟩
   ·simp [wk,wk2,wk1,aG]
   ·simp [znm,znp]
def hP:List AV→AHeap→(AV→Prop)→Prop
 |[],_,K=>K (.agg (bM 12 145 148))
 |_,_,_=>False
theorem sj:EntOk Tryz.prog 50 (Ent.pure hP):=by
 refine EntOk.pure fun args H K h=>?_
 unfold hP at h
 split at h
 rotate_left
 ·exact h.elim
 refine ⟨_,h,?_⟩
 refine ACalls.fW aB TblOk.nil Tryz.func50 [.cell 0 123] (Nat.le_refl _) (T:=ay []) (h:=fun hcl hlt=>?_)
 clear hlt
 simp only [go_sem,bM]
 simp (disch:=first|assumption|omega|(simp;done)|(simp;omega)|(simp only [bt,and_true];first|done|omega|(simp;done))) [↓zmi,beq,ybc,ybd,ybe,al,wk,wk2,wk1,wkM,wkL,aG,ybf,hcl,cy]
/-! Act -/
def zl:=eW (ah) lA cQ
def vp:=iN 150 5 (ah) lA cQ
theorem Dy:EntOk Tryz.prog 150 (Ent.effect zl):=by
 unfold zl
 refine EntOk.effect fun args H K h=>?_
 unfold eW at h
 split at h
 rotate_left
 ·exact h.elim
 rename_i id x
 obtain ⟨q,s,a,⟨hW,rfl,ha,hl⟩,hK⟩:=h
 refine ⟨_,_,hK,?_⟩
 clear hK
 have hF:=hW.facts
 have hcl0:=hW.closed (t:=s.add (cQ a))
 have hid:=AHeap.get_lt hW.o
 have hq:=AHeap.get_lt hW.bu
 refine ACalls.fW aB (TblOk.cons gW (TblOk.cons lK (TblOk.cons wS (TblOk.cons zO (TblOk.cons wF (TblOk.cons AM TblOk.nil)))))) Tryz.func150 [] (by rw [af];omega) (T:=ay [(3,[[],[],[],[],[1,3]]),(4,[[],[],[],[],[1,3]])]) (h:=fun hcl hlt=>?_)
 clear hlt
 have hcl1:=hcl0 hcl
 unfold cQ at hl hcl1 ⊢
 rw [← ap,← ap,← ap,← ap] at hl hcl1 ⊢
 have hl5:=hl
 have hl4:=aF hl5
 have hl3:=aF hl4
 have hl2:=aF hl3
 have hl1:=aF hl2
 simp only [go_sem,ah,kb,ki,af,aM]
 refine cB (.inr rfl) (hW.push _) hl1 ?_
 rw [hF.p0]
 simp only [go_sem,ah,kb,ki,af,aM]
 refine jv (ha.1) ((hW.next _).push _) hl2 ?_
 rw [hF.p1]
 simp only [go_sem,ah,kb,ki,af,aM]
 refine jy (c:=aD) (ha.2.1) ((hW.next _).push _) hl3 ?_
 rw [hF.p1]
 simp only [go_sem,ah,kb,ki,af,aM]
 refine jy (c:=aL) (ha.2.2.1) ((hW.next _).push _) hl4 ?_
 rw [hF.p1]
 simp only [go_sem,ah,kb,ki,af,aM]
 refine jv (ha.2.2.2) ((hW.next _).push _) hl5 ?_
 rw [hF.p1]
 try simp only [go_sem,ah,kb,ki,af,aM]
 simp (disch:=first|assumption|omega|(simp;done)|(simp;omega)|(simp only [bt,and_true];first|done|omega|(simp;done))) [↓zmi,beq,ybc,ybd,ybe,al,wk,wk2,wk1,wkM,wkL,aG,ybf,hcl1]
theorem AQ:EntOk Tryz.prog 79 (Ent.effect vp):=by
 unfold vp
 refine EntOk.effect fun args H K h=>?_
 unfold iN at h
 split at h
 rotate_left
 ·exact h.elim
 rename_i id most f' r sz' xs
 obtain ⟨q,s,l,⟨hW,rfl,rfl,rfl,ha,hl⟩,hK⟩:=h
 refine ⟨_,_,hK,?_⟩
 clear hK
 have hF:=hW.facts
 have hcl0:=fun t=>hW.closed (t:=t)
 have hid:=AHeap.get_lt hW.o
 have hq:=AHeap.get_lt hW.bu
 have hll:=gv rp hl
 obtain ⟨b,sl,sf,sa⟩:=s
 have hne:=aU hid
 have hneq:=aU hq
 have n1:(id=q)=False:=eq_false hW.ne
 have n2:(q=id)=False:=eq_false fun e=>hW.ne e.symm
 have hcs:=aI hW.o
 have hb0:=hW.bu
 have hi0:=hW.o
 have hnn:=hW.ne
 have hlb:b.length≤cR:=aF hl
 rw [bx] at hlb
 dsimp only at hcs hb0 hi0 hlb
 have lw2:=cY (l.length:Int) 2
 refine ACalls.fW aB (TblOk.cons cI (TblOk.cons Dy TblOk.nil)) Tryz.func79 [] (by rw [af];omega) (T:=ay [(2,[[],[],[],[],[],[],[],[],[4,7],[],[],[4,7]])]) (h:=fun hcl hlt=>?_)
 clear hlt
 have hcl1:=fun t=>hcl0 t hcl
 have hcm:=fun cs=>@av H id cs hid
 have hA:=fun X Y=>@cd H id q X Y hnn hid
 have hB:=fun X=>cF (X:=X) hnn hb0
 have eh:=fun X Y Z=>@cD H id q X Y Z
 have hL2:sl=true→(sl||decide ((l.length:Int) > most))=true:=fun h=>by rw [h,Bool.true_or]
 have hL3:sl=false→decide ((l.length:Int) > most)=(sl||decide ((l.length:Int) > most)):=fun h=>by rw [h,Bool.false_or]
 have hst:=gx (H:=H) (id:=id) (q:=q) (b:=b) (sl:=sl) (sf:=sf) (sa:=sa) (n:=l.length) (most:=most)
 have hS1:=hW.next ((⟨b,sl,sf,sa⟩:Enc).add (cC l.length most))
 have htot:(((⟨b,sl,sf,sa⟩:Enc).add (cC l.length most)).add (bP cQ l))=(⟨b,sl,sf,sa⟩:Enc).add (aT cQ most l):=by rw [ap];rfl
 rw [← htot] at hl ⊢
 generalize ((⟨b,sl,sf,sa⟩:Enc).add (cC l.length most))=s1 at *
 generalize (sl||decide ((l.length:Int) > most))=L at *
 have hlv:∀ n,(AV.slice .any 5 (l.map (ah))).lt n:=fun n=>aa (fun x=>aW x)
 have hlc:=fun n=>@fx n most 150 r
 cases sl
 case' true =>
  rw [hL2 rfl] at hst
  simp only [go_sem,byq,hne,hneq,n1,n2,hcs,hcm,hA,hB,eh,hi0,hb0,ba,ybb]
 case' false =>
  simp only [go_sem,byq,hne,hneq,n1,n2,hcs,hcm,hA,hB,eh,hi0,hb0,ba,ybb,hL3 rfl]
 all_goals
  (repeat with_reducible refine And.intro (by first|assumption|decide|omega|exact ⟨by omega,by omega⟩) ?_)
  refine aA (A:=Nat) (fun k=>[(0,.ptr id 0),(4,.ptr H.nx 0),(33,.slice .any 5 (l.map (ah))),(34,.int .i64 (l.length:Int)),(35,.int .i64 (k:Int))])
   (fun k=>(swH H id q (s1.add (bP cQ (l.take k)))).push (.cells (bM most 150 r))) (fun k=>k≤l.length) (fun k=>l.length - k) 0 (by omega) ?_ fun k hk=>?_
  ·rw [yar,bP,cz,hst]
   refine ⟨by simp only [zkk,zkp,zky,zkz,af];omega,by repeat first|exact .refl _|refine .push ?_ _,?_,?_,?_⟩
   ·rw [← hst];exact ag (hcl1 _) (hlc _)
   ·simp [ltF,zky,zkz,znh,zmz,hlv]
    omega
   ·simp [bf,wk2,wk1,wkM,Fr.get]
  simp only [go_sem]
  refine ai (fun hc=>?_) (fun hc=>?_)
  ·have hk':k<l.length:=by simp at hc;omega
   obtain ⟨x,hx⟩:∃ x,x=l[k]:=⟨_,rfl⟩
   have hg:=bc (f:=ah) (l:=l) (k:=k) (x:=x) (by rw [List.getElem?_eq_getElem hk',hx])
   have e5:IntKind.i64.wrap ((k:Int)+1)=((k+1:Nat):Int):=by rw [wrap_i64]<;>omega
   have hxo:=ha x (by rw [hx];exact List.getElem_mem hk')
   obtain ⟨es,hlk⟩:=cE (g:=cQ) hk' hx hl
   have hSk:=hW.next (s1.add (bP cQ (l.take k)))
   simp only [go_sem,Int.toNat_natCast,ybb,hg,af,ah,bM,bx]
   refine ⟨by omega,?_⟩
   refine mi (c:=ah) hxo (hSk.push2 _ _) hlk ?_
   rw [hF.p2,es]
   simp only [go_sem,e5]
   refine ⟨k+1,by omega,by omega,by simp only [zkk,zkp,zky,af];omega,by repeat first|exact .refl _|refine .push ?_ _,ag (hcl1 _) (hlc _),?_,?_⟩
   ·simp [ltF,zky,af,znh,zmz,hlv]
    omega
   ·simp [bf,wk2,wk1,wkM,Fr.get]
  ·have hk':k=l.length:=by simp at hc;omega
   subst hk'
   rw [List.take_length]
   simp only [go_sem]
   refine ⟨?_,by repeat first|exact .refl _|refine .push ?_ _,hcl1 _,?_⟩
   ·simp [wk,wk2,wk1,aG]
   ·simp [znm,znp]
def ii:List AV→AHeap→(AV→Prop)→Prop
 |[],_,K=>K (.agg (bM 12 150 155))
 |_,_,_=>False
theorem sk:EntOk Tryz.prog 52 (Ent.pure ii):=by
 refine EntOk.pure fun args H K h=>?_
 unfold ii at h
 split at h
 rotate_left
 ·exact h.elim
 refine ⟨_,h,?_⟩
 refine ACalls.fW aB TblOk.nil Tryz.func52 [.cell 0 129] (Nat.le_refl _) (T:=ay []) (h:=fun hcl hlt=>?_)
 clear hlt
 simp only [go_sem,bM]
 simp (disch:=first|assumption|omega|(simp;done)|(simp;omega)|(simp only [bt,and_true];first|done|omega|(simp;done))) [↓zmi,beq,ybc,ybd,ybe,al,wk,wk2,wk1,wkM,wkL,aG,ybf,hcl,cy]
/-! Gra -/
def yK:=eW (ax) oW fT
def wg:=iN 241 4 (ax) oW fT
theorem Du:EntOk Tryz.prog 241 (Ent.effect yK):=by
 unfold yK
 refine EntOk.effect fun args H K h=>?_
 unfold eW at h
 split at h
 rotate_left
 ·exact h.elim
 rename_i id x
 obtain ⟨q,s,a,⟨hW,rfl,ha,hl⟩,hK⟩:=h
 refine ⟨_,_,hK,?_⟩
 clear hK
 have hF:=hW.facts
 have hcl0:=hW.closed (t:=s.add (fT a))
 have hid:=AHeap.get_lt hW.o
 have hq:=AHeap.get_lt hW.bu
 refine ACalls.fW aB (TblOk.cons gW (TblOk.cons uY (TblOk.cons wV (TblOk.cons AU TblOk.nil)))) Tryz.func241 [] (by rw [af];omega) (T:=ay [(4,[[],[],[],[],[1,3]])]) (h:=fun hcl hlt=>?_)
 clear hlt
 have hcl1:=hcl0 hcl
 unfold fT at hl hcl1 ⊢
 rw [← ap,← ap,← ap] at hl hcl1 ⊢
 have hl4:=hl
 have hl3:=aF hl4
 have hl2:=aF hl3
 have hl1:=aF hl2
 simp only [go_sem,ax,kS,boL,af,aM]
 refine cB (.inr rfl) (hW.push _) hl1 ?_
 rw [hF.p0]
 simp only [go_sem,ax,kS,boL,af,aM]
 refine pR ((hW.next _).push _) hl2 ?_
 rw [hF.p1]
 simp only [go_sem,ax,kS,boL,af,aM]
 refine pR ((hW.next _).push _) hl3 ?_
 rw [hF.p1]
 simp only [go_sem,ax,kS,boL,af,aM]
 refine jy (c:=.bool) (fun _ _=>trivial) ((hW.next _).push _) hl4 ?_
 rw [hF.p1]
 try simp only [go_sem,ax,kS,boL,af,aM]
 simp (disch:=first|assumption|omega|(simp;done)|(simp;omega)|(simp only [bt,and_true];first|done|omega|(simp;done))) [↓zmi,beq,ybc,ybd,ybe,al,wk,wk2,wk1,wkM,wkL,aG,ybf,hcl1]
theorem Av:EntOk Tryz.prog 169 (Ent.effect wg):=by
 unfold wg
 refine EntOk.effect fun args H K h=>?_
 unfold iN at h
 split at h
 rotate_left
 ·exact h.elim
 rename_i id most f' r sz' xs
 obtain ⟨q,s,l,⟨hW,rfl,rfl,rfl,ha,hl⟩,hK⟩:=h
 refine ⟨_,_,hK,?_⟩
 clear hK
 have hF:=hW.facts
 have hcl0:=fun t=>hW.closed (t:=t)
 have hid:=AHeap.get_lt hW.o
 have hq:=AHeap.get_lt hW.bu
 have hll:=gv tF hl
 obtain ⟨b,sl,sf,sa⟩:=s
 have hne:=aU hid
 have hneq:=aU hq
 have n1:(id=q)=False:=eq_false hW.ne
 have n2:(q=id)=False:=eq_false fun e=>hW.ne e.symm
 have hcs:=aI hW.o
 have hb0:=hW.bu
 have hi0:=hW.o
 have hnn:=hW.ne
 have hlb:b.length≤cR:=aF hl
 rw [bx] at hlb
 dsimp only at hcs hb0 hi0 hlb
 have lw2:=cY (l.length:Int) 2
 refine ACalls.fW aB (TblOk.cons cI (TblOk.cons Du TblOk.nil)) Tryz.func169 [] (by rw [af];omega) (T:=ay [(2,[[],[],[],[],[],[],[],[],[4,7],[],[],[4,7]])]) (h:=fun hcl hlt=>?_)
 clear hlt
 have hcl1:=fun t=>hcl0 t hcl
 have hcm:=fun cs=>@av H id cs hid
 have hA:=fun X Y=>@cd H id q X Y hnn hid
 have hB:=fun X=>cF (X:=X) hnn hb0
 have eh:=fun X Y Z=>@cD H id q X Y Z
 have hL2:sl=true→(sl||decide ((l.length:Int) > most))=true:=fun h=>by rw [h,Bool.true_or]
 have hL3:sl=false→decide ((l.length:Int) > most)=(sl||decide ((l.length:Int) > most)):=fun h=>by rw [h,Bool.false_or]
 have hst:=gx (H:=H) (id:=id) (q:=q) (b:=b) (sl:=sl) (sf:=sf) (sa:=sa) (n:=l.length) (most:=most)
 have hS1:=hW.next ((⟨b,sl,sf,sa⟩:Enc).add (cC l.length most))
 have htot:(((⟨b,sl,sf,sa⟩:Enc).add (cC l.length most)).add (bP fT l))=(⟨b,sl,sf,sa⟩:Enc).add (aT fT most l):=by rw [ap];rfl
 rw [← htot] at hl ⊢
 generalize ((⟨b,sl,sf,sa⟩:Enc).add (cC l.length most))=s1 at *
 generalize (sl||decide ((l.length:Int) > most))=L at *
 have hlv:∀ n,(AV.slice .any 4 (l.map (ax))).lt n:=fun n=>aa (fun x=>aS x)
 have hlc:=fun n=>@fx n most 241 r
 cases sl
 case' true =>
  rw [hL2 rfl] at hst
  simp only [go_sem,byq,hne,hneq,n1,n2,hcs,hcm,hA,hB,eh,hi0,hb0,ba,ybb]
 case' false =>
  simp only [go_sem,byq,hne,hneq,n1,n2,hcs,hcm,hA,hB,eh,hi0,hb0,ba,ybb,hL3 rfl]
 all_goals
  (repeat with_reducible refine And.intro (by first|assumption|decide|omega|exact ⟨by omega,by omega⟩) ?_)
  refine aA (A:=Nat) (fun k=>[(0,.ptr id 0),(4,.ptr H.nx 0),(33,.slice .any 4 (l.map (ax))),(34,.int .i64 (l.length:Int)),(35,.int .i64 (k:Int))])
   (fun k=>(swH H id q (s1.add (bP fT (l.take k)))).push (.cells (bM most 241 r))) (fun k=>k≤l.length) (fun k=>l.length - k) 0 (by omega) ?_ fun k hk=>?_
  ·rw [yar,bP,cz,hst]
   refine ⟨by simp only [zkk,zkp,zky,zkz,af];omega,by repeat first|exact .refl _|refine .push ?_ _,?_,?_,?_⟩
   ·rw [← hst];exact ag (hcl1 _) (hlc _)
   ·simp [ltF,zky,zkz,znh,zmz,hlv]
    omega
   ·simp [bf,wk2,wk1,wkM,Fr.get]
  simp only [go_sem]
  refine ai (fun hc=>?_) (fun hc=>?_)
  ·have hk':k<l.length:=by simp at hc;omega
   obtain ⟨x,hx⟩:∃ x,x=l[k]:=⟨_,rfl⟩
   have hg:=bc (f:=ax) (l:=l) (k:=k) (x:=x) (by rw [List.getElem?_eq_getElem hk',hx])
   have e5:IntKind.i64.wrap ((k:Int)+1)=((k+1:Nat):Int):=by rw [wrap_i64]<;>omega
   have hxo:=ha x (by rw [hx];exact List.getElem_mem hk')
   obtain ⟨es,hlk⟩:=cE (g:=fT) hk' hx hl
   have hSk:=hW.next (s1.add (bP fT (l.take k)))
   simp only [go_sem,Int.toNat_natCast,ybb,hg,af,ax,bM,bx]
   refine ⟨by omega,?_⟩
   refine mi (c:=ax) hxo (hSk.push2 _ _) hlk ?_
   rw [hF.p2,es]
   simp only [go_sem,e5]
   refine ⟨k+1,by omega,by omega,by simp only [zkk,zkp,zky,af];omega,by repeat first|exact .refl _|refine .push ?_ _,ag (hcl1 _) (hlc _),?_,?_⟩
   ·simp [ltF,zky,af,znh,zmz,hlv]
    omega
   ·simp [bf,wk2,wk1,wkM,Fr.get]
  ·have hk':k=l.length:=by simp at hc;omega
   subst hk'
   rw [List.take_length]
   simp only [go_sem]
   refine ⟨?_,by repeat first|exact .refl _|refine .push ?_ _,hcl1 _,?_⟩
   ·simp [wk,wk2,wk1,aG]
   ·simp [znm,znp]
def jS:List AV→AHeap→(AV→Prop)→Prop
 |[],_,K=>K (.agg (bM 8 241 244))
 |_,_,_=>False
theorem wo:EntOk Tryz.prog 170 (Ent.pure jS):=by
 refine EntOk.pure fun args H K h=>?_
 unfold jS at h
 split at h
 rotate_left
 ·exact h.elim
 refine ⟨_,h,?_⟩
 refine ACalls.fW aB TblOk.nil Tryz.func170 [.cell 0 308] (Nat.le_refl _) (T:=ay []) (h:=fun hcl hlt=>?_)
 clear hlt
 simp only [go_sem,bM]
 simp (disch:=first|assumption|omega|(simp;done)|(simp;omega)|(simp only [bt,and_true];first|done|omega|(simp;done))) [↓zmi,beq,ybc,ybd,ybe,al,wk,wk2,wk1,wkM,wkL,aG,ybf,hcl,cy]
end Go.AL
open Go Go.AL Go.Proofs
namespace Go.AL
set_option linter.all false
set_option maxRecDepth 10000
theorem A6:ti Tryz.prog 135=some ⟨.struct [(0,3,false),(1,132,false),(2,133,false)],3,24,.agg [.int .i64 0,.nilf,.nilf]⟩:=by kernel_rfl
theorem C7:ti Tryz.prog 132=some ⟨.func,1,8,.nilf⟩:=by kernel_rfl
theorem CW:ti Tryz.prog 133=some ⟨.func,1,8,.nilf⟩:=by kernel_rfl
theorem zB:ti Tryz.prog 147=some ⟨.struct [(0,3,false),(1,144,false),(2,145,false)],3,24,.agg [.int .i64 0,.nilf,.nilf]⟩:=by kernel_rfl
theorem CR:ti Tryz.prog 144=some ⟨.func,1,8,.nilf⟩:=by kernel_rfl
theorem DC:ti Tryz.prog 145=some ⟨.func,1,8,.nilf⟩:=by kernel_rfl
attribute [go_sem] A6 C7 CW zB CR DC
/-! Tab -/
def zd:=eW (aq) mS dX
def vC:=iN 158 8 (aq) mS dX
theorem Cs:EntOk Tryz.prog 158 (Ent.effect zd):=by
 unfold zd
 refine EntOk.effect fun args H K h=>?_
 unfold eW at h
 split at h
 rotate_left
 ·exact h.elim
 rename_i id x
 obtain ⟨q,s,a,⟨hW,rfl,ha,hl⟩,hK⟩:=h
 refine ⟨_,_,hK,?_⟩
 clear hK
 have hF:=hW.facts
 have hcl0:=hW.closed (t:=s.add (dX a))
 have hid:=AHeap.get_lt hW.o
 have hq:=AHeap.get_lt hW.bu
 refine ACalls.fW aB (TblOk.cons gW (TblOk.cons lK (TblOk.cons vP (TblOk.cons Aj (TblOk.cons ln (TblOk.cons pK (TblOk.cons wI (TblOk.cons AW TblOk.nil)))))))) Tryz.func158 [] (by rw [af];omega) (T:=ay [(3,[[],[],[],[],[1,3]]),(4,[[],[],[],[],[1,3]]),(6,[[],[],[],[],[1,3]])]) (h:=fun hcl hlt=>?_)
 clear hlt
 have hcl1:=hcl0 hcl
 unfold dX at hl hcl1 ⊢
 rw [← ap,← ap,← ap,← ap,← ap,← ap,← ap] at hl hcl1 ⊢
 have hl8:=hl
 have hl7:=aF hl8
 have hl6:=aF hl7
 have hl5:=aF hl6
 have hl4:=aF hl5
 have hl3:=aF hl4
 have hl2:=aF hl3
 have hl1:=aF hl2
 simp only [go_sem,aq,dY,iX,iV,inL,af,aM]
 refine cB (.inr rfl) (hW.push _) hl1 ?_
 rw [hF.p0]
 simp only [go_sem,aq,dY,iX,iV,inL,af,aM]
 refine jv (ha.1) ((hW.next _).push _) hl2 ?_
 rw [hF.p1]
 simp only [go_sem,aq,dY,iX,iV,inL,af,aM]
 refine jy (c:=aQ) (ha.2.1) ((hW.next _).push _) hl3 ?_
 rw [hF.p1]
 simp only [go_sem,aq,dY,iX,iV,inL,af,aM]
 refine jy (c:=.int .i64) (fun _ _=>trivial) ((hW.next _).push _) hl4 ?_
 rw [hF.p1]
 simp only [go_sem,aq,dY,iX,iV,inL,af,aM]
 refine cB (.inr rfl) ((hW.next _).push _) hl5 ?_
 rw [hF.p1]
 simp only [go_sem,aq,dY,iX,iV,inL,af,aM]
 refine jy (c:=vv) (ha.2.2.1) ((hW.next _).push _) hl6 ?_
 rw [hF.p1]
 simp only [go_sem,aq,dY,iX,iV,inL,af,aM]
 refine cB (.inr rfl) ((hW.next _).push _) hl7 ?_
 rw [hF.p1]
 simp only [go_sem,aq,dY,iX,iV,inL,af,aM]
 refine jv (ha.2.2.2) ((hW.next _).push _) hl8 ?_
 rw [hF.p1]
 try simp only [go_sem,aq,dY,iX,iV,inL,af,aM]
 simp (disch:=first|assumption|omega|(simp;done)|(simp;omega)|(simp only [bt,and_true];first|done|omega|(simp;done))) [↓zmi,beq,ybc,ybd,ybe,al,wk,wk2,wk1,wkM,wkL,aG,ybf,hcl1]
theorem Ak:EntOk Tryz.prog 80 (Ent.effect vC):=by
 unfold vC
 refine EntOk.effect fun args H K h=>?_
 unfold iN at h
 split at h
 rotate_left
 ·exact h.elim
 rename_i id most f' r sz' xs
 obtain ⟨q,s,l,⟨hW,rfl,rfl,rfl,ha,hl⟩,hK⟩:=h
 refine ⟨_,_,hK,?_⟩
 clear hK
 have hF:=hW.facts
 have hcl0:=fun t=>hW.closed (t:=t)
 have hid:=AHeap.get_lt hW.o
 have hq:=AHeap.get_lt hW.bu
 have hll:=gv sX hl
 obtain ⟨b,sl,sf,sa⟩:=s
 have hne:=aU hid
 have hneq:=aU hq
 have n1:(id=q)=False:=eq_false hW.ne
 have n2:(q=id)=False:=eq_false fun e=>hW.ne e.symm
 have hcs:=aI hW.o
 have hb0:=hW.bu
 have hi0:=hW.o
 have hnn:=hW.ne
 have hlb:b.length≤cR:=aF hl
 rw [bx] at hlb
 dsimp only at hcs hb0 hi0 hlb
 have lw2:=cY (l.length:Int) 2
 refine ACalls.fW aB (TblOk.cons cI (TblOk.cons Cs TblOk.nil)) Tryz.func80 [] (by rw [af];omega) (T:=ay [(2,[[],[],[],[],[],[],[],[],[4,7],[],[],[4,7]])]) (h:=fun hcl hlt=>?_)
 clear hlt
 have hcl1:=fun t=>hcl0 t hcl
 have hcm:=fun cs=>@av H id cs hid
 have hA:=fun X Y=>@cd H id q X Y hnn hid
 have hB:=fun X=>cF (X:=X) hnn hb0
 have eh:=fun X Y Z=>@cD H id q X Y Z
 have hL2:sl=true→(sl||decide ((l.length:Int) > most))=true:=fun h=>by rw [h,Bool.true_or]
 have hL3:sl=false→decide ((l.length:Int) > most)=(sl||decide ((l.length:Int) > most)):=fun h=>by rw [h,Bool.false_or]
 have hst:=gx (H:=H) (id:=id) (q:=q) (b:=b) (sl:=sl) (sf:=sf) (sa:=sa) (n:=l.length) (most:=most)
 have hS1:=hW.next ((⟨b,sl,sf,sa⟩:Enc).add (cC l.length most))
 have htot:(((⟨b,sl,sf,sa⟩:Enc).add (cC l.length most)).add (bP dX l))=(⟨b,sl,sf,sa⟩:Enc).add (aT dX most l):=by rw [ap];rfl
 rw [← htot] at hl ⊢
 generalize ((⟨b,sl,sf,sa⟩:Enc).add (cC l.length most))=s1 at *
 generalize (sl||decide ((l.length:Int) > most))=L at *
 have hlv:∀ n,(AV.slice .any 8 (l.map (aq))).lt n:=fun n=>aa (fun x=>bh x)
 have hlc:=fun n=>@fx n most 158 r
 cases sl
 case' true =>
  rw [hL2 rfl] at hst
  simp only [go_sem,byq,hne,hneq,n1,n2,hcs,hcm,hA,hB,eh,hi0,hb0,ba,ybb]
 case' false =>
  simp only [go_sem,byq,hne,hneq,n1,n2,hcs,hcm,hA,hB,eh,hi0,hb0,ba,ybb,hL3 rfl]
 all_goals
  (repeat with_reducible refine And.intro (by first|assumption|decide|omega|exact ⟨by omega,by omega⟩) ?_)
  refine aA (A:=Nat) (fun k=>[(0,.ptr id 0),(4,.ptr H.nx 0),(33,.slice .any 8 (l.map (aq))),(34,.int .i64 (l.length:Int)),(35,.int .i64 (k:Int))])
   (fun k=>(swH H id q (s1.add (bP dX (l.take k)))).push (.cells (bM most 158 r))) (fun k=>k≤l.length) (fun k=>l.length - k) 0 (by omega) ?_ fun k hk=>?_
  ·rw [yar,bP,cz,hst]
   refine ⟨by simp only [zkk,zkp,zky,zkz,af];omega,by repeat first|exact .refl _|refine .push ?_ _,?_,?_,?_⟩
   ·rw [← hst];exact ag (hcl1 _) (hlc _)
   ·simp [ltF,zky,zkz,znh,zmz,hlv]
    omega
   ·simp [bf,wk2,wk1,wkM,Fr.get]
  simp only [go_sem]
  refine ai (fun hc=>?_) (fun hc=>?_)
  ·have hk':k<l.length:=by simp at hc;omega
   obtain ⟨x,hx⟩:∃ x,x=l[k]:=⟨_,rfl⟩
   have hg:=bc (f:=aq) (l:=l) (k:=k) (x:=x) (by rw [List.getElem?_eq_getElem hk',hx])
   have e5:IntKind.i64.wrap ((k:Int)+1)=((k+1:Nat):Int):=by rw [wrap_i64]<;>omega
   have hxo:=ha x (by rw [hx];exact List.getElem_mem hk')
   obtain ⟨es,hlk⟩:=cE (g:=dX) hk' hx hl
   have hSk:=hW.next (s1.add (bP dX (l.take k)))
   simp only [go_sem,Int.toNat_natCast,ybb,hg,af,aq,bM,bx]
   refine ⟨by omega,?_⟩
   refine mi (c:=aq) hxo (hSk.push2 _ _) hlk ?_
   rw [hF.p2,es]
   simp only [go_sem,e5]
   refine ⟨k+1,by omega,by omega,by simp only [zkk,zkp,zky,af];omega,by repeat first|exact .refl _|refine .push ?_ _,ag (hcl1 _) (hlc _),?_,?_⟩
   ·simp [ltF,zky,af,znh,zmz,hlv]
    omega
   ·simp [bf,wk2,wk1,wkM,Fr.get]
  ·have hk':k=l.length:=by simp at hc;omega
   subst hk'
   rw [List.take_length]
   simp only [go_sem]
   refine ⟨?_,by repeat first|exact .refl _|refine .push ?_ _,hcl1 _,?_⟩
   ·simp [wk,wk2,wk1,aG]
   ·simp [znm,znp]
def ig:List AV→AHeap→(AV→Prop)→Prop
 |[],_,K=>K (.agg (bM 8 158 163))
 |_,_,_=>False
theorem rH:EntOk Tryz.prog 54 (Ent.pure ig):=by
 refine EntOk.pure fun args H K h=>?_
 unfold ig at h
 split at h
 rotate_left
 ·exact h.elim
 refine ⟨_,h,?_⟩
 refine ACalls.fW aB TblOk.nil Tryz.func54 [.cell 0 135] (Nat.le_refl _) (T:=ay []) (h:=fun hcl hlt=>?_)
 clear hlt
 simp only [go_sem,bM]
 simp (disch:=first|assumption|omega|(simp;done)|(simp;omega)|(simp only [bt,and_true];first|done|omega|(simp;done))) [↓zmi,beq,ybc,ybd,ybe,al,wk,wk2,wk1,wkM,wkL,aG,ybf,hcl,cy]
/-! Rol -/
def za:=eW (aJ) ub gL
def wN:=iN 168 6 (aJ) ub gL
theorem BI:EntOk Tryz.prog 168 (Ent.effect za):=by
 unfold za
 refine EntOk.effect fun args H K h=>?_
 unfold eW at h
 split at h
 rotate_left
 ·exact h.elim
 rename_i id x
 obtain ⟨q,s,a,⟨hW,rfl,ha,hl⟩,hK⟩:=h
 refine ⟨_,_,hK,?_⟩
 clear hK
 have hF:=hW.facts
 have hcl0:=hW.closed (t:=s.add (gL a))
 have hid:=AHeap.get_lt hW.o
 have hq:=AHeap.get_lt hW.bu
 refine ACalls.fW aB (TblOk.cons gW (TblOk.cons lK (TblOk.cons wo (TblOk.cons Av (TblOk.cons ln (TblOk.cons pK (TblOk.cons uY TblOk.nil))))))) Tryz.func168 [] (by rw [af];omega) (T:=ay [(3,[[],[],[],[],[1,3]]),(4,[[],[],[],[],[1,3]])]) (h:=fun hcl hlt=>?_)
 clear hlt
 have hcl1:=hcl0 hcl
 unfold gL at hl hcl1 ⊢
 rw [← ap,← ap,← ap,← ap,← ap] at hl hcl1 ⊢
 have hl6:=hl
 have hl5:=aF hl6
 have hl4:=aF hl5
 have hl3:=aF hl4
 have hl2:=aF hl3
 have hl1:=aF hl2
 simp only [go_sem,aJ,jS,dY,inL,af,aM]
 refine cB (.inr rfl) (hW.push _) hl1 ?_
 rw [hF.p0]
 simp only [go_sem,aJ,jS,dY,inL,af,aM]
 refine jv (ha) ((hW.next _).push _) hl2 ?_
 rw [hF.p1]
 simp only [go_sem,aJ,jS,dY,inL,af,aM]
 refine jy (c:=ax) (fun _ _=>trivial) ((hW.next _).push _) hl3 ?_
 rw [hF.p1]
 simp only [go_sem,aJ,jS,dY,inL,af,aM]
 refine jy (c:=.int .i64) (fun _ _=>trivial) ((hW.next _).push _) hl4 ?_
 rw [hF.p1]
 simp only [go_sem,aJ,jS,dY,inL,af,aM]
 refine cB (.inr rfl) ((hW.next _).push _) hl5 ?_
 rw [hF.p1]
 simp only [go_sem,aJ,jS,dY,inL,af,aM]
 refine pR ((hW.next _).push _) hl6 ?_
 rw [hF.p1]
 try simp only [go_sem,aJ,jS,dY,inL,af,aM]
 simp (disch:=first|assumption|omega|(simp;done)|(simp;omega)|(simp only [bt,and_true];first|done|omega|(simp;done))) [↓zmi,beq,ybc,ybd,ybe,al,wk,wk2,wk1,wkM,wkL,aG,ybf,hcl1]
theorem Bm:EntOk Tryz.prog 82 (Ent.effect wN):=by
 unfold wN
 refine EntOk.effect fun args H K h=>?_
 unfold iN at h
 split at h
 rotate_left
 ·exact h.elim
 rename_i id most f' r sz' xs
 obtain ⟨q,s,l,⟨hW,rfl,rfl,rfl,ha,hl⟩,hK⟩:=h
 refine ⟨_,_,hK,?_⟩
 clear hK
 have hF:=hW.facts
 have hcl0:=fun t=>hW.closed (t:=t)
 have hid:=AHeap.get_lt hW.o
 have hq:=AHeap.get_lt hW.bu
 have hll:=gv vq hl
 obtain ⟨b,sl,sf,sa⟩:=s
 have hne:=aU hid
 have hneq:=aU hq
 have n1:(id=q)=False:=eq_false hW.ne
 have n2:(q=id)=False:=eq_false fun e=>hW.ne e.symm
 have hcs:=aI hW.o
 have hb0:=hW.bu
 have hi0:=hW.o
 have hnn:=hW.ne
 have hlb:b.length≤cR:=aF hl
 rw [bx] at hlb
 dsimp only at hcs hb0 hi0 hlb
 have lw2:=cY (l.length:Int) 2
 refine ACalls.fW aB (TblOk.cons cI (TblOk.cons BI TblOk.nil)) Tryz.func82 [] (by rw [af];omega) (T:=ay [(2,[[],[],[],[],[],[],[],[],[4,7],[],[],[4,7]])]) (h:=fun hcl hlt=>?_)
 clear hlt
 have hcl1:=fun t=>hcl0 t hcl
 have hcm:=fun cs=>@av H id cs hid
 have hA:=fun X Y=>@cd H id q X Y hnn hid
 have hB:=fun X=>cF (X:=X) hnn hb0
 have eh:=fun X Y Z=>@cD H id q X Y Z
 have hL2:sl=true→(sl||decide ((l.length:Int) > most))=true:=fun h=>by rw [h,Bool.true_or]
 have hL3:sl=false→decide ((l.length:Int) > most)=(sl||decide ((l.length:Int) > most)):=fun h=>by rw [h,Bool.false_or]
 have hst:=gx (H:=H) (id:=id) (q:=q) (b:=b) (sl:=sl) (sf:=sf) (sa:=sa) (n:=l.length) (most:=most)
 have hS1:=hW.next ((⟨b,sl,sf,sa⟩:Enc).add (cC l.length most))
 have htot:(((⟨b,sl,sf,sa⟩:Enc).add (cC l.length most)).add (bP gL l))=(⟨b,sl,sf,sa⟩:Enc).add (aT gL most l):=by rw [ap];rfl
 rw [← htot] at hl ⊢
 generalize ((⟨b,sl,sf,sa⟩:Enc).add (cC l.length most))=s1 at *
 generalize (sl||decide ((l.length:Int) > most))=L at *
 have hlv:∀ n,(AV.slice .any 6 (l.map (aJ))).lt n:=fun n=>aa (fun x=>aV x)
 have hlc:=fun n=>@fx n most 168 r
 cases sl
 case' true =>
  rw [hL2 rfl] at hst
  simp only [go_sem,byq,hne,hneq,n1,n2,hcs,hcm,hA,hB,eh,hi0,hb0,ba,ybb]
 case' false =>
  simp only [go_sem,byq,hne,hneq,n1,n2,hcs,hcm,hA,hB,eh,hi0,hb0,ba,ybb,hL3 rfl]
 all_goals
  (repeat with_reducible refine And.intro (by first|assumption|decide|omega|exact ⟨by omega,by omega⟩) ?_)
  refine aA (A:=Nat) (fun k=>[(0,.ptr id 0),(4,.ptr H.nx 0),(33,.slice .any 6 (l.map (aJ))),(34,.int .i64 (l.length:Int)),(35,.int .i64 (k:Int))])
   (fun k=>(swH H id q (s1.add (bP gL (l.take k)))).push (.cells (bM most 168 r))) (fun k=>k≤l.length) (fun k=>l.length - k) 0 (by omega) ?_ fun k hk=>?_
  ·rw [yar,bP,cz,hst]
   refine ⟨by simp only [zkk,zkp,zky,zkz,af];omega,by repeat first|exact .refl _|refine .push ?_ _,?_,?_,?_⟩
   ·rw [← hst];exact ag (hcl1 _) (hlc _)
   ·simp [ltF,zky,zkz,znh,zmz,hlv]
    omega
   ·simp [bf,wk2,wk1,wkM,Fr.get]
  simp only [go_sem]
  refine ai (fun hc=>?_) (fun hc=>?_)
  ·have hk':k<l.length:=by simp at hc;omega
   obtain ⟨x,hx⟩:∃ x,x=l[k]:=⟨_,rfl⟩
   have hg:=bc (f:=aJ) (l:=l) (k:=k) (x:=x) (by rw [List.getElem?_eq_getElem hk',hx])
   have e5:IntKind.i64.wrap ((k:Int)+1)=((k+1:Nat):Int):=by rw [wrap_i64]<;>omega
   have hxo:=ha x (by rw [hx];exact List.getElem_mem hk')
   obtain ⟨es,hlk⟩:=cE (g:=gL) hk' hx hl
   have hSk:=hW.next (s1.add (bP gL (l.take k)))
   simp only [go_sem,Int.toNat_natCast,ybb,hg,af,aJ,bM,bx]
   refine ⟨by omega,?_⟩
   refine mi (c:=aJ) hxo (hSk.push2 _ _) hlk ?_
   rw [hF.p2,es]
   simp only [go_sem,e5]
   refine ⟨k+1,by omega,by omega,by simp only [zkk,zkp,zky,af];omega,by repeat first|exact .refl _|refine .push ?_ _,ag (hcl1 _) (hlc _),?_,?_⟩
   ·simp [ltF,zky,af,znh,zmz,hlv]
    omega
   ·simp [bf,wk2,wk1,wkM,Fr.get]
  ·have hk':k=l.length:=by simp at hc;omega
   subst hk'
   rw [List.take_length]
   simp only [go_sem]
   refine ⟨?_,by repeat first|exact .refl _|refine .push ?_ _,hcl1 _,?_⟩
   ·simp [wk,wk2,wk1,aG]
   ·simp [znm,znp]
def hU:List AV→AHeap→(AV→Prop)→Prop
 |[],_,K=>K (.agg (bM 6 168 172))
 |_,_,_=>False
theorem ri:EntOk Tryz.prog 58 (Ent.pure hU):=by
 refine EntOk.pure fun args H K h=>?_
 unfold hU at h
 split at h
 rotate_left
 ·exact h.elim
 refine ⟨_,h,?_⟩
 refine ACalls.fW aB TblOk.nil Tryz.func58 [.cell 0 147] (Nat.le_refl _) (T:=ay []) (h:=fun hcl hlt=>?_)
 clear hlt
 simp only [go_sem,bM]
 simp (disch:=first|assumption|omega|(simp;done)|(simp;omega)|(simp only [bt,and_true];first|done|omega|(simp;done))) [↓zmi,beq,ybc,ybd,ybe,al,wk,wk2,wk1,wkM,wkL,aG,ybf,hcl,cy]
end Go.AL
