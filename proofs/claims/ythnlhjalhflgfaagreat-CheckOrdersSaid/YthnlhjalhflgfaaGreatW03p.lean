/- Lemmas of the proof; no condition. -/
import Derived.Test.YthnlhjalhflgfaaGreatW03j
set_option linter.all false
set_option maxRecDepth 10000
set_option maxHeartbeats 32000000
open Go Go.AL Go.Proofs
namespace Go.AL
theorem D9:ti Tryz.prog 34=some ⟨.struct [(0,25,false),(1,26,false),(2,27,false),(3,28,false),(4,29,false),(5,30,false),(6,31,false),(7,32,false),(8,3,false),(9,3,false)],10,208,.agg [.slice .nil 1 [],.slice .nil 1 [],.slice .nil 1 [],.slice .nil 1 [],.slice .nil 1 [],.slice .nil 1 [],.slice .nil 1 [],.slice .nil 1 [],.int .i64 0,.int .i64 0]⟩:=krf
attribute [go_sem] D9
theorem m7 {n sz:Nat}:AV.lt n (.slice .any sz []):=we fun x hx=>absurd hx (by simp)
def rU (x:Sch):List UInt8 × Int :=
 if (jf x).l=true then ([],3) else if (jf x).f=true then ([],2) else if (jf x).a=true then ([],4) else if 8000<(jf x).b.length then ([],3) else ((jf x).b,0)
def jM:PCt
 |[.agg l],_,K=>∃ x:Sch,(l=aR x∧OkSch x∧(jf x).b.length≤dB)∧K (.tup [.slice .any 1 (bys (rU x).1),.int .i64 (rU x).2])
 |_,_,_=>False
theorem SOn.leq {H HB:AHeap} {id q:Nat} {s0 s:Enc} (hW:SOn HB id q s0) (hle:H.Le HB) (h1:H.nx≤id) (h2:H.nx≤q):H.Le (swH HB id q s):=by
 refine ⟨hle.nx,fun j x hj=>?_⟩
 have hj2:=glq hj
 unfold swH
 rw [AHeap.get_set_ne _ _ (by omega),AHeap.get_set_ne _ _ (by omega)]
 exact hle.get _ _ hj
theorem qE {x:Sch} {RE:List UInt8 × Int} (h:rU x=RE) :
 ((jf x).l=true∧RE=([],3))∨((jf x).l=false∧(jf x).f=true∧RE=([],2))∨((jf x).l=false∧(jf x).f=false∧(jf x).a=true∧RE=([],4)) ∨
 ((jf x).l=false∧(jf x).f=false∧(jf x).a=false∧8000<(jf x).b.length∧RE=([],3))∨((jf x).l=false∧(jf x).f=false∧(jf x).a=false∧(jf x).b.length≤8000∧RE=((jf x).b,0)):=by
 subst h
 unfold rU
 cases (jf x).l<;>cases (jf x).f<;>cases (jf x).a<;>simp
 omega
theorem B2 (x:Sch):enc0.add (jf x)=(((((((((enc0.add (b9 x.maxBatch 2)).add (b9 x.budget 2)).add (bn gz 32 x.fields)).add (bn fT 8 x.headers)).add (bn iY 12 x.states)).add (bn eJ 12 x.actions)).add (bn gB 8 x.tables)).add (bn im 12 x.stages)).add (bn kr 6 x.roles)).add (bn qq 8 x.refs):=by
 unfold jf fC
 simp only [aH]
def Bt:=jM
theorem ML:EPp 30 Bt:=by
 unfold Bt
 refine Ype fun _ H K h=>?_
 unfold jM at h
 split at h<;>try exact h.elim
 rename_i l
 obtain ⟨x,⟨rfl,ha,hl⟩,hK⟩:=h
 refine ⟨_,hK,?_⟩
 clear hK
 refine Yfw aE (tCq iZ (tCq J5 (tCq EP (tCq Hf (tCq DP (tCq IE (tCq EK (tCq FP (tCq Ew (tCq Gx (tCq Ep (tCq Hk (tCq DB (tCq Kz (tCq DO (tCq Ie (tCq DJ tNq))))))))))))))))) Tryz.func30 [.tmp 2,.tmp 3] (nrq _) (T:=aB [(4,[[],[],[],[0,2]]),(5,[[],[],[],[0,2]]),(6,[[],[],[],[0,2]]),(7,[[],[],[],[0,2]]),(8,[[],[],[],[0,2]]),(9,[[],[],[],[0,2]]),(10,[[],[],[],[0,2]]),(11,[[],[],[],[0,2]]),(2,[[1]])]) (h:=fun hcl=>?_)
 simp only [go_sem,aR,eE]
 refine r8 4 0 1 (cs:=[AV.slice .nil 1 [],.bool false,.bool false,.bool false]) rfl (by simp only [go_sem]) rfl ?_
 obtain ⟨HB,hHB⟩:∃ HB,HB=(((H.push (.cells (aR x))).push (.buf 1 0)).push (.cells (swC (H.nx+1+1+1) [] false false false))).push (.buf 1 0):=⟨_,rfl⟩
 have hnB:HB.nx=H.nx+1+1+1+1:=by rw [hHB];rfl
 have hW:SOn HB (H.nx+1+1) (H.nx+1+1+1) enc0:=by
  exact Y151
 have hcB:HB.Closed:=by
  exact Y56
 have hcr:a8 HB H.nx=some (aR x):=by rw [hHB];simp only [go_sem]
 have hle:H.Le HB:=by rw [hHB];repeat first|exact .refl _|refine .push ?_ _
 have hcw:∀ s,a8 (swH HB (H.nx+1+1) (H.nx+1+1+1) s) H.nx=some (aR x):=fun s=>by rw [wI (by omega) (by omega),hcr]
 have hcI:∀ s,a8 (swH HB (H.nx+1+1) (H.nx+1+1+1) s) (H.nx+1+1)=some (swC (H.nx+1+1+1) s.b s.l s.f s.a):=fun s=>aM (hW.next s).o
 have hlW:∀ s,H.Le (swH HB (H.nx+1+1) (H.nx+1+1+1) s):=fun s=>hW.leq hle (by omega) (by omega)
 have hcl1:=fun t=>hW.closed (t:=t) hcB
 have hF:=hW.facts
 refine Tq59 ?_
 rw [show (((H.push (.cells [.slice .any 3 (x.fields.map aG),.slice .any 3 (x.headers.map az),.slice .any 5 (x.states.map aA),.slice .any 5 (x.actions.map ap),.slice .any 8 (x.tables.map ax),.slice .any 2 (x.stages.map aO),.slice .any 6 (x.roles.map aN),.slice .any 6 (x.refs.map a9),.int .i64 x.maxBatch,.int .i64 x.budget])).push (.buf 1 0)).push (.cells [.slice (.own (H.nx+1+1+1)) 1 [],.bool false,.bool false,.bool false])).push (.buf 1 0)=HB from hHB.symm]
 clear hHB
 obtain ⟨RE,hRE⟩:∃ RE,rU x=RE:=⟨_,rfl⟩
 have hR:=qE hRE
 rw [hRE]
 have hTot:=B2 x
 rw [t8] at hTot
 rw [hTot] at hl
 have hl10:=hl
 have hl9:=aQ hl10
 have hl8:=aQ hl9
 have hl7:=aQ hl8
 have hl6:=aQ hl7
 have hl5:=aQ hl6
 have hl4:=aQ hl5
 have hl3:=aQ hl4
 have hl2:=aQ hl3
 have hl1:=aQ hl2
 try simp only [go_sem,hcw,hcI,swC,aR,ak,hnB,ybb,hcr,jY,jU,jX,jS,jQ,jT,jR,jZ]
 refine cW (.inr rfl) hW hl1 ?_
 refine Tq17 ?_
 refine cW (.inr rfl) (hW.next _) hl2 ?_
 rw [hF.pp]
 refine Tq17 ?_
 refine kO (c:=aG) (ha.f) (hW.next _) hl3 ?_
 rw [hF.pp]
 refine Tq17 ?_
 refine kO (c:=az) (ha.h) (hW.next _) hl4 ?_
 rw [hF.pp]
 refine Tq17 ?_
 refine kO (c:=aA) (ha.s) (hW.next _) hl5 ?_
 rw [hF.pp]
 refine Tq17 ?_
 refine kO (c:=ap) (ha.a) (hW.next _) hl6 ?_
 rw [hF.pp]
 refine Tq17 ?_
 refine kO (c:=ax) (ha.t) (hW.next _) hl7 ?_
 rw [hF.pp]
 refine Tq17 ?_
 refine kO (c:=aO) (fun _ _=>trivial) (hW.next _) hl8 ?_
 rw [hF.pp]
 refine Tq17 ?_
 refine kO (c:=aN) (ha.r) (hW.next _) hl9 ?_
 rw [hF.pp]
 refine Tq17 ?_
 refine kO (c:=a9) (fun _ _=>trivial) (hW.next _) hl10 ?_
 rw [hF.pp]
 rw [← hTot]
 rcases hR with ⟨h1,rfl⟩|⟨h1,h2,rfl⟩|⟨h1,h2,h3,rfl⟩|⟨h1,h2,h3,h4,rfl⟩|⟨h1,h2,h3,h4,rfl⟩
 ·skip
  try simp only [go_sem,hcw,hcI,swC,aR,ak,hnB,ybb,h1,zlk]
  exact Y22
 ·skip
  try simp only [go_sem,hcw,hcI,swC,aR,ak,hnB,ybb,h1,h2,zlk]
  exact Y22
 ·skip
  try simp only [go_sem,hcw,hcI,swC,aR,ak,hnB,ybb,h1,h2,h3,zlk]
  exact Y22
 ·skip
  have d4:decide (((jf x).b.length:Int) > 8000)=true:=dtq (by omega)
  refine Tq34 ?_
  exact Y22
 ·skip
  have d4:decide (((jf x).b.length:Int) > 8000)=false:=dfq (by omega)
  refine Tq34 ?_
  exact Y22
def Bu:=jM
theorem Mc:EPp 39 Bu:=by
 unfold Bu
 refine Ype fun _ H K h=>?_
 unfold jM at h
 split at h<;>try exact h.elim
 rename_i l
 obtain ⟨x,⟨rfl,ha,hl⟩,hK⟩:=h
 refine ⟨_,hK,?_⟩
 clear hK
 refine Yfw aE (tCq MZ (tCq pD (tCq pW (tCq N6 (tCq Nn (tCq Nt tNq)))))) Tryz.func39 [.tmp 2,.tmp 3] (nrq _) (T:=aB [(2,[[1]])]) (h:=fun hcl=>?_)
 simp only [go_sem,aR,eE]
 refine r8 4 0 1 (cs:=[AV.slice .nil 1 [],.bool false,.bool false,.bool false]) rfl (by simp only [go_sem]) rfl ?_
 obtain ⟨HB,hHB⟩:∃ HB,HB=(((H.push (.cells (aR x))).push (.buf 1 0)).push (.cells (swC (H.nx+1+1+1) [] false false false))).push (.buf 1 0):=⟨_,rfl⟩
 have hnB:HB.nx=H.nx+1+1+1+1:=by rw [hHB];rfl
 have hW:SOn HB (H.nx+1+1) (H.nx+1+1+1) enc0:=by
  exact Y151
 have hcB:HB.Closed:=by
  exact Y56
 have hcr:a8 HB H.nx=some (aR x):=by rw [hHB];simp only [go_sem]
 have hle:H.Le HB:=by rw [hHB];repeat first|exact .refl _|refine .push ?_ _
 have hcw:∀ s,a8 (swH HB (H.nx+1+1) (H.nx+1+1+1) s) H.nx=some (aR x):=fun s=>by rw [wI (by omega) (by omega),hcr]
 have hcI:∀ s,a8 (swH HB (H.nx+1+1) (H.nx+1+1+1) s) (H.nx+1+1)=some (swC (H.nx+1+1+1) s.b s.l s.f s.a):=fun s=>aM (hW.next s).o
 have hlW:∀ s,H.Le (swH HB (H.nx+1+1) (H.nx+1+1+1) s):=fun s=>hW.leq hle (by omega) (by omega)
 have hcl1:=fun t=>hW.closed (t:=t) hcB
 have hF:=hW.facts
 refine Tq59 ?_
 rw [show (((H.push (.cells [.slice .any 3 (x.fields.map aG),.slice .any 3 (x.headers.map az),.slice .any 5 (x.states.map aA),.slice .any 5 (x.actions.map ap),.slice .any 8 (x.tables.map ax),.slice .any 2 (x.stages.map aO),.slice .any 6 (x.roles.map aN),.slice .any 6 (x.refs.map a9),.int .i64 x.maxBatch,.int .i64 x.budget])).push (.buf 1 0)).push (.cells [.slice (.own (H.nx+1+1+1)) 1 [],.bool false,.bool false,.bool false])).push (.buf 1 0)=HB from hHB.symm]
 clear hHB
 obtain ⟨RE,hRE⟩:∃ RE,rU x=RE:=⟨_,rfl⟩
 have hR:=qE hRE
 rw [hRE]
 have hTot:=B2 x
 rw [t8] at hTot
 have hPk:((((enc0.add (b9 x.maxBatch 2)).add (b9 x.budget 2)).add (bn gz 32 x.fields)).add (bn fT 8 x.headers)).add (bn iY 12 x.states)=((enc0.add (b9 x.maxBatch 2)).add (b9 x.budget 2)).add (fC x):=by
  unfold fC
  simp only [aH]
 rw [hPk] at hTot
 rw [hTot] at hl
 have hl8:=hl
 have hl7:=aQ hl8
 have hl6:=aQ hl7
 have hl5:=aQ hl6
 have hl4:=aQ hl5
 have hl3:=aQ hl4
 have hl2:=aQ hl3
 have hl1:=aQ hl2
 try simp only [hcr,go_sem,hcw,hcI,swC,aR,ak,hnB,ybb,bS,bT,bX,bP,bR,bV,bW,bY,bU,bO,bL,bN,bM,AV.cells,ap,bb,aG,aJ,az,ba,aL,aT,a9,aN,aO,aA,ax,vc,inL,boL,ak]
 refine cW (.inr rfl) hW hl1 ?_
 refine Tq1 ?_
 refine cW (.inr rfl) (hW.next _) hl2 ?_
 rw [hF.pp]
 refine Tq1 ?_
 refine oz (c:=eE) (ok:=OkSch) (g:=fC) ha (hW.next _) hl3 ?_
 rw [hF.pp]
 have hE10:((((enc0.add (b9 x.maxBatch 2)).add (b9 x.budget 2)).add (fC x))).add (bn eJ 12 x.actions)=(((((enc0.add (b9 x.maxBatch 2)).add (b9 x.budget 2)).add (fC x))).add (db x.actions.length 12)).add (b5 eJ x.actions):=gW
 have hT10:=hl4
 rw [hE10] at hT10
 have hN10:=gF tW hT10
 refine Tq1 ?_
 refine lO (hW.next _) (aQ hT10) ?_
 rw [hF.pp]
 refine Tq1 ?_
 refine aC (A:=Nat) (fun k=>[(1,.ptr H.nx 0),(4,.ptr (H.nx+1+1) 0),(34,.slice .any 5 (x.actions.map (ap))),(35,.int .i64 (x.actions.length:Int)),(36,.int .i64 (k:Int))]) (fun k=>swH HB (H.nx+1+1) (H.nx+1+1+1) ((((((enc0.add (b9 x.maxBatch 2)).add (b9 x.budget 2)).add (fC x))).add (db x.actions.length 12)).add (b5 eJ (x.actions.take k)))) (fun k=>k≤x.actions.length) (fun k=>x.actions.length - k) 0 (by omega) ?_ fun k1 hk1=>?_
 ·rw [yar,b5,cU]
  refine eNt (hcl1 _) ?_ ?_ (a:=by simp only [zkq,zkv,zle,ak];omega)
  ·exact Y16
  ·exact Y13
 refine Tq15 ?_
 refine au (fun hc=>?_) (fun hc=>?_)
 ·have hk1':k1<x.actions.length:=sHc
  obtain ⟨x1,hx1⟩:∃ x1,x1=x.actions[k1]:=⟨_,rfl⟩
  have hg1:=cG (f:=ap) (l:=x.actions) (k:=k1) (x:=x1) (by rw [gQq hk1',hx1])
  have e15:IntKind.i64.wrap ((k1:Int)+1)=((k1+1:Nat):Int):=by rw [wrap_i64]<;>omega
  have ho1:=(ha.a) x1 (by rw [hx1];exact gMq hk1')
  obtain ⟨es1,hlk1⟩:=dh (g:=eJ) hk1' hx1 hT10
  simp only [go_sem,hcw,hcI,swC,aR,iNq,ybb,hg1,ap,ak,hnB,ybb,bS,bT,bX,bP,bR,bV,bW,bY,bU,bO,bL,bN,bM,AV.cells,ap,bb,aG,aJ,az,ba,aL,aT,a9,aN,aO,aA,ax,vc,inL,boL,ak]
  refine ⟨by omega,?_⟩
  skip
  refine oz (c:=ap) (ho1) ((hW.next _).push _) hlk1 ?_
  rw [hF.p1]
  rw [es1]
  refine Tq66 ?_
  refine ⟨k1+1,by omega,by omega,eNt (hcl1 _) ?_ ?_ (a:=by simp only [zkq,zkv,zle,ak];omega)⟩
  ·exact Y18
  ·exact Y13
 ·have hk1':k1=x.actions.length:=sHc
  subst hk1'
  rw [List.take_length]
  rw [← hE10]
  have hE11:((((((enc0.add (b9 x.maxBatch 2)).add (b9 x.budget 2)).add (fC x))).add (bn eJ 12 x.actions))).add (bn gB 8 x.tables)=(((((((enc0.add (b9 x.maxBatch 2)).add (b9 x.budget 2)).add (fC x))).add (bn eJ 12 x.actions))).add (db x.tables.length 8)).add (b5 gB x.tables):=gW
  have hT11:=hl5
  rw [hE11] at hT11
  have hN11:=gF wF hT11
  refine Tq1 ?_
  refine lO (hW.next _) (aQ hT11) ?_
  rw [hF.pp]
  refine Tq1 ?_
  refine aC (A:=Nat) (fun k=>[(1,.ptr H.nx 0),(4,.ptr (H.nx+1+1) 0),(50,.slice .any 8 (x.tables.map (ax))),(51,.int .i64 (x.tables.length:Int)),(52,.int .i64 (k:Int))]) (fun k=>swH HB (H.nx+1+1) (H.nx+1+1+1) ((((((((enc0.add (b9 x.maxBatch 2)).add (b9 x.budget 2)).add (fC x))).add (bn eJ 12 x.actions))).add (db x.tables.length 8)).add (b5 gB (x.tables.take k)))) (fun k=>k≤x.tables.length) (fun k=>x.tables.length - k) 0 (by omega) ?_ fun k1 hk1=>?_
  ·rw [yar,b5,cU]
   refine eNt (hcl1 _) ?_ ?_ (a:=by simp only [zkq,zkv,zle,ak];omega)
   ·exact Y16
   ·exact Y13
  refine Tq15 ?_
  refine au (fun hc=>?_) (fun hc=>?_)
  ·have hk1':k1<x.tables.length:=sHc
   obtain ⟨x1,hx1⟩:∃ x1,x1=x.tables[k1]:=⟨_,rfl⟩
   have hg1:=cG (f:=ax) (l:=x.tables) (k:=k1) (x:=x1) (by rw [gQq hk1',hx1])
   have e15:IntKind.i64.wrap ((k1:Int)+1)=((k1+1:Nat):Int):=by rw [wrap_i64]<;>omega
   have ho1:=(ha.t) x1 (by rw [hx1];exact gMq hk1')
   obtain ⟨es1,hlk1⟩:=dh (g:=gB) hk1' hx1 hT11
   simp only [go_sem,hcw,hcI,swC,aR,iNq,ybb,hg1,ax,ak,hnB,ybb,bS,bT,bX,bP,bR,bV,bW,bY,bU,bO,bL,bN,bM,AV.cells,ap,bb,aG,aJ,az,ba,aL,aT,a9,aN,aO,aA,ax,vc,inL,boL,ak]
   refine ⟨by omega,?_⟩
   skip
   refine oz (c:=ax) (ho1) ((hW.next _).push _) hlk1 ?_
   rw [hF.p1]
   rw [es1]
   refine Tq66 ?_
   refine ⟨k1+1,by omega,by omega,eNt (hcl1 _) ?_ ?_ (a:=by simp only [zkq,zkv,zle,ak];omega)⟩
   ·exact Y18
   ·exact Y13
  ·have hk1':k1=x.tables.length:=sHc
   subst hk1'
   rw [List.take_length]
   rw [← hE11]
   have hE12:((((((((enc0.add (b9 x.maxBatch 2)).add (b9 x.budget 2)).add (fC x))).add (bn eJ 12 x.actions))).add (bn gB 8 x.tables))).add (bn im 12 x.stages)=(((((((((enc0.add (b9 x.maxBatch 2)).add (b9 x.budget 2)).add (fC x))).add (bn eJ 12 x.actions))).add (bn gB 8 x.tables))).add (db x.stages.length 12)).add (b5 im x.stages):=gW
   have hT12:=hl6
   rw [hE12] at hT12
   have hN12:=gF wr hT12
   refine Tq1 ?_
   refine lO (hW.next _) (aQ hT12) ?_
   rw [hF.pp]
   refine Tq1 ?_
   refine aC (A:=Nat) (fun k=>[(1,.ptr H.nx 0),(4,.ptr (H.nx+1+1) 0),(66,.slice .any 2 (x.stages.map (aO))),(67,.int .i64 (x.stages.length:Int)),(68,.int .i64 (k:Int))]) (fun k=>swH HB (H.nx+1+1) (H.nx+1+1+1) ((((((((((enc0.add (b9 x.maxBatch 2)).add (b9 x.budget 2)).add (fC x))).add (bn eJ 12 x.actions))).add (bn gB 8 x.tables))).add (db x.stages.length 12)).add (b5 im (x.stages.take k)))) (fun k=>k≤x.stages.length) (fun k=>x.stages.length - k) 0 (by omega) ?_ fun k1 hk1=>?_
   ·rw [yar,b5,cU]
    refine eNt (hcl1 _) ?_ ?_ (a:=by simp only [zkq,zkv,zle,ak];omega)
    ·exact Y16
    ·exact Y13
   refine Tq15 ?_
   refine au (fun hc=>?_) (fun hc=>?_)
   ·have hk1':k1<x.stages.length:=sHc
    obtain ⟨x1,hx1⟩:∃ x1,x1=x.stages[k1]:=⟨_,rfl⟩
    have hg1:=cG (f:=aO) (l:=x.stages) (k:=k1) (x:=x1) (by rw [gQq hk1',hx1])
    have e15:IntKind.i64.wrap ((k1:Int)+1)=((k1+1:Nat):Int):=by rw [wrap_i64]<;>omega
    obtain ⟨es1,hlk1⟩:=dh (g:=im) hk1' hx1 hT12
    simp only [go_sem,hcw,hcI,swC,aR,iNq,ybb,hg1,aO,ak,hnB,ybb,bS,bT,bX,bP,bR,bV,bW,bY,bU,bO,bL,bN,bM,AV.cells,ap,bb,aG,aJ,az,ba,aL,aT,a9,aN,aO,aA,ax,vc,inL,boL,ak]
    refine ⟨by omega,?_⟩
    rw [show im x1=((b9 x1.table 2).add (b9 x1.header 2)) from rfl] at es1 hlk1
    rw [← aH] at hlk1
    rw [← aH] at es1
    have hm10:=aQ hlk1
    refine Tq33 ?_
    refine cW (.inr rfl) ((hW.next _).push _) hm10 ?_
    rw [hF.p1]
    refine Tq33 ?_
    refine cW (.inr rfl) ((hW.next _).push _) hlk1 ?_
    rw [hF.p1]
    rw [es1]
    refine Tq66 ?_
    refine ⟨k1+1,by omega,by omega,eNt (hcl1 _) ?_ ?_ (a:=by simp only [zkq,zkv,zle,ak];omega)⟩
    ·exact Y18
    ·exact Y13
   ·have hk1':k1=x.stages.length:=sHc
    subst hk1'
    rw [List.take_length]
    rw [← hE12]
    have hE13:((((((((((enc0.add (b9 x.maxBatch 2)).add (b9 x.budget 2)).add (fC x))).add (bn eJ 12 x.actions))).add (bn gB 8 x.tables))).add (bn im 12 x.stages))).add (bn kr 6 x.roles)=(((((((((((enc0.add (b9 x.maxBatch 2)).add (b9 x.budget 2)).add (fC x))).add (bn eJ 12 x.actions))).add (bn gB 8 x.tables))).add (bn im 12 x.stages))).add (db x.roles.length 6)).add (b5 kr x.roles):=gW
    have hT13:=hl7
    rw [hE13] at hT13
    have hN13:=gF yZ hT13
    refine Tq1 ?_
    refine lO (hW.next _) (aQ hT13) ?_
    rw [hF.pp]
    refine Tq1 ?_
    refine aC (A:=Nat) (fun k=>[(1,.ptr H.nx 0),(4,.ptr (H.nx+1+1) 0),(87,.slice .any 6 (x.roles.map (aN))),(88,.int .i64 (x.roles.length:Int)),(89,.int .i64 (k:Int))]) (fun k=>swH HB (H.nx+1+1) (H.nx+1+1+1) ((((((((((((enc0.add (b9 x.maxBatch 2)).add (b9 x.budget 2)).add (fC x))).add (bn eJ 12 x.actions))).add (bn gB 8 x.tables))).add (bn im 12 x.stages))).add (db x.roles.length 6)).add (b5 kr (x.roles.take k)))) (fun k=>k≤x.roles.length) (fun k=>x.roles.length - k) 0 (by omega) ?_ fun k1 hk1=>?_
    ·rw [yar,b5,cU]
     refine eNt (hcl1 _) ?_ ?_ (a:=by simp only [zkq,zkv,zle,ak];omega)
     ·exact Y16
     ·exact Y13
    refine Tq15 ?_
    refine au (fun hc=>?_) (fun hc=>?_)
    ·have hk1':k1<x.roles.length:=sHc
     obtain ⟨x1,hx1⟩:∃ x1,x1=x.roles[k1]:=⟨_,rfl⟩
     have hg1:=cG (f:=aN) (l:=x.roles) (k:=k1) (x:=x1) (by rw [gQq hk1',hx1])
     have e15:IntKind.i64.wrap ((k1:Int)+1)=((k1+1:Nat):Int):=by rw [wrap_i64]<;>omega
     have ho1:=(ha.r) x1 (by rw [hx1];exact gMq hk1')
     obtain ⟨es1,hlk1⟩:=dh (g:=kr) hk1' hx1 hT13
     simp only [go_sem,hcw,hcI,swC,aR,iNq,ybb,hg1,aN,ak,hnB,ybb,bS,bT,bX,bP,bR,bV,bW,bY,bU,bO,bL,bN,bM,AV.cells,ap,bb,aG,aJ,az,ba,aL,aT,a9,aN,aO,aA,ax,vc,inL,boL,ak]
     refine ⟨by omega,?_⟩
     skip
     refine oz (c:=aN) (ho1) ((hW.next _).push _) hlk1 ?_
     rw [hF.p1]
     rw [es1]
     refine Tq66 ?_
     refine ⟨k1+1,by omega,by omega,eNt (hcl1 _) ?_ ?_ (a:=by simp only [zkq,zkv,zle,ak];omega)⟩
     ·exact Y18
     ·exact Y13
    ·have hk1':k1=x.roles.length:=sHc
     subst hk1'
     rw [List.take_length]
     rw [← hE13]
     have hE14:((((((((((((enc0.add (b9 x.maxBatch 2)).add (b9 x.budget 2)).add (fC x))).add (bn eJ 12 x.actions))).add (bn gB 8 x.tables))).add (bn im 12 x.stages))).add (bn kr 6 x.roles))).add (bn qq 8 x.refs)=(((((((((((((enc0.add (b9 x.maxBatch 2)).add (b9 x.budget 2)).add (fC x))).add (bn eJ 12 x.actions))).add (bn gB 8 x.tables))).add (bn im 12 x.stages))).add (bn kr 6 x.roles))).add (db x.refs.length 8)).add (b5 qq x.refs):=gW
     have hT14:=hl8
     rw [hE14] at hT14
     have hN14:=gF CD hT14
     refine Tq1 ?_
     refine lO (hW.next _) (aQ hT14) ?_
     rw [hF.pp]
     refine Tq1 ?_
     refine aC (A:=Nat) (fun k=>[(1,.ptr H.nx 0),(4,.ptr (H.nx+1+1) 0),(103,.slice .any 6 (x.refs.map (a9))),(104,.int .i64 (x.refs.length:Int)),(105,.int .i64 (k:Int))]) (fun k=>swH HB (H.nx+1+1) (H.nx+1+1+1) ((((((((((((((enc0.add (b9 x.maxBatch 2)).add (b9 x.budget 2)).add (fC x))).add (bn eJ 12 x.actions))).add (bn gB 8 x.tables))).add (bn im 12 x.stages))).add (bn kr 6 x.roles))).add (db x.refs.length 8)).add (b5 qq (x.refs.take k)))) (fun k=>k≤x.refs.length) (fun k=>x.refs.length - k) 0 (by omega) ?_ fun k1 hk1=>?_
     ·rw [yar,b5,cU]
      refine eNt (hcl1 _) ?_ ?_ (a:=by simp only [zkq,zkv,zle,ak];omega)
      ·exact Y16
      ·exact Y13
     refine Tq15 ?_
     refine au (fun hc=>?_) (fun hc=>?_)
     ·have hk1':k1<x.refs.length:=sHc
      obtain ⟨x1,hx1⟩:∃ x1,x1=x.refs[k1]:=⟨_,rfl⟩
      have hg1:=cG (f:=a9) (l:=x.refs) (k:=k1) (x:=x1) (by rw [gQq hk1',hx1])
      have e15:IntKind.i64.wrap ((k1:Int)+1)=((k1+1:Nat):Int):=by rw [wrap_i64]<;>omega
      obtain ⟨es1,hlk1⟩:=dh (g:=qq) hk1' hx1 hT14
      simp only [go_sem,hcw,hcI,swC,aR,iNq,ybb,hg1,a9,ak,hnB,ybb,bS,bT,bX,bP,bR,bV,bW,bY,bU,bO,bL,bN,bM,AV.cells,ap,bb,aG,aJ,az,ba,aL,aT,a9,aN,aO,aA,ax,vc,inL,boL,ak]
      refine ⟨by omega,?_⟩
      rw [show qq x1=((b9 x1.table 2).add ((b9 x1.key 1).add ((b9 x1.action 2).add ((b9 x1.param 1).add ((b9 x1.toTable 2).add (b9 x1.toKey 1)))))) from rfl] at es1 hlk1
      rw [← aH,← aH,← aH,← aH,← aH] at hlk1
      rw [← aH,← aH,← aH,← aH,← aH] at es1
      have hm14:=aQ hlk1
      have hm13:=aQ hm14
      have hm12:=aQ hm13
      have hm11:=aQ hm12
      have hm10:=aQ hm11
      refine Tq8 ?_
      refine cW (.inr rfl) ((hW.next _).push _) hm10 ?_
      rw [hF.p1]
      refine Tq8 ?_
      refine cW (.inl rfl) ((hW.next _).push _) hm11 ?_
      rw [hF.p1]
      refine Tq8 ?_
      refine cW (.inr rfl) ((hW.next _).push _) hm12 ?_
      rw [hF.p1]
      refine Tq8 ?_
      refine cW (.inl rfl) ((hW.next _).push _) hm13 ?_
      rw [hF.p1]
      refine Tq8 ?_
      refine cW (.inr rfl) ((hW.next _).push _) hm14 ?_
      rw [hF.p1]
      refine Tq8 ?_
      refine cW (.inl rfl) ((hW.next _).push _) hlk1 ?_
      rw [hF.p1]
      rw [es1]
      refine Tq66 ?_
      refine ⟨k1+1,by omega,by omega,eNt (hcl1 _) ?_ ?_ (a:=by simp only [zkq,zkv,zle,ak];omega)⟩
      ·exact Y18
      ·exact Y13
     ·have hk1':k1=x.refs.length:=sHc
      subst hk1'
      rw [List.take_length]
      rw [← hE14]
      rw [← hTot]
      rcases hR with ⟨h1,rfl⟩|⟨h1,h2,rfl⟩|⟨h1,h2,h3,rfl⟩|⟨h1,h2,h3,h4,rfl⟩|⟨h1,h2,h3,h4,rfl⟩
      ·skip
       try simp only [go_sem,hcw,hcI,swC,aR,ak,hnB,ybb,h1,zlk]
       exact Y22
      ·skip
       try simp only [go_sem,hcw,hcI,swC,aR,ak,hnB,ybb,h1,h2,zlk]
       exact Y22
      ·skip
       try simp only [go_sem,hcw,hcI,swC,aR,ak,hnB,ybb,h1,h2,h3,zlk]
       exact Y22
      ·skip
       have d4:decide (((jf x).b.length:Int) > 8000)=true:=dtq (by omega)
       refine Tq34 ?_
       exact Y22
      ·skip
       have d4:decide (((jf x).b.length:Int) > 8000)=false:=dfq (by omega)
       refine Tq34 ?_
       exact Y22
theorem PS:tSl Tryz.prog 22 5:=kSl
attribute [go_sem] PS
theorem Fx:tSl Tryz.prog 28 86:=kSl
theorem K9:tSl Tryz.prog 29 57:=kSl
theorem Ib:tSl Tryz.prog 31 48:=kSl
theorem J1:tSl Tryz.prog 25 45:=kSl
theorem F8:tSl Tryz.prog 83 114:=kSl
theorem FT:tSl Tryz.prog 32 50:=kSl
theorem HD:tSl Tryz.prog 84 112:=kSl
theorem KX:tSl Tryz.prog 30 75:=kSl
theorem J9:tSl Tryz.prog 23 3:=kSl
theorem LB:ti Tryz.prog 86=some ⟨.struct [(0,3,false),(1,9,false),(2,83,false),(3,84,false),(4,9,false)],5,88,.agg [.int .i64 0,.str [],.slice .nil 1 [],.slice .nil 1 [],.str []]⟩:=krf
theorem ND:ti Tryz.prog 57=some ⟨.struct [(0,3,false),(1,9,false),(2,54,false),(3,23,false),(4,3,false),(5,55,false),(6,3,false),(7,9,false)],8,128,.agg [.int .i64 0,.str [],.slice .nil 1 [],.slice .nil 1 [],.int .i64 0,.slice .nil 1 [],.int .i64 0,.str []]⟩:=krf
theorem Nu:ti Tryz.prog 48=some ⟨.struct [(0,3,false),(1,9,false),(2,46,false),(3,23,false),(4,3,false),(5,4,false)],6,88,.agg [.int .i64 0,.str [],.slice .nil 1 [],.slice .nil 1 [],.int .i64 0,.bool false]⟩:=krf
theorem Ol:ti Tryz.prog 45=some ⟨.struct [(0,3,false),(1,9,false),(2,3,false)],3,32,.agg [.int .i64 0,.str [],.int .i64 0]⟩:=krf
theorem O3:ti Tryz.prog 114=some ⟨.struct [(0,9,false),(1,3,false)],2,24,.agg [.str [],.int .i64 0]⟩:=krf
theorem Mq:ti Tryz.prog 112=some ⟨.struct [(0,3,false),(1,3,false),(2,110,false)],6,48,.agg [.int .i64 0,.int .i64 0,.int .i64 0,.int .i64 0,.int .u64 0,.int .u64 0]⟩:=krf
theorem O9:ti Tryz.prog 110=some ⟨.struct [(0,3,false),(1,3,false),(2,106,false)],4,32,.agg [.int .i64 0,.int .i64 0,.int .u64 0,.int .u64 0]⟩:=krf
theorem Mx:ti Tryz.prog 50=some ⟨.struct [(0,3,false),(1,3,false),(2,3,false),(3,3,false),(4,3,false),(5,3,false)],6,48,.agg [.int .i64 0,.int .i64 0,.int .i64 0,.int .i64 0,.int .i64 0,.int .i64 0]⟩:=krf
theorem Ov:ti Tryz.prog 75=some ⟨.struct [(0,3,false),(1,3,false)],2,16,.agg [.int .i64 0,.int .i64 0]⟩:=krf
attribute [go_sem] Fx K9 Ib J1 F8 FT HD KX J9 LB ND Nu Ol O3 Mq O9 Mx Ov
theorem zX {v:Nat} (h:v<2^128):(kG v).length≤17:=by
 unfold kG
 rw [yaz,md]
 have:=re h
 omega
theorem eO (n w:Int):(b9 n w).b.length≤4:=eS n w
theorem oc (s:List UInt8) (m:Int):(il s m).b.length≤65537:=Am s
theorem xI {v:Nat} (h:rm v):(jK v).b.length≤17:=zX h
theorem yr (x:Bool):(i5 x).b.length≤1:=by simp [i5]
theorem GK {α:Type} {g:α→Enc} {B:Nat}:∀ {l:List α},(∀ a∈l,(g a).b.length≤B)→(b5 g l).b.length≤l.length*B
 |[],_=>Nat.zero_le _
 |x::l,h=>by
  rw [b5,dx,yaz,Nat.succ_mul]
  have:=h x List.mem_cons_self
  have:=GK (l:=l) fun a ha=>h a (List.mem_cons_of_mem _ ha)
  omega
theorem gY {α:Type} {g:α→Enc} {m:Int} {n B:Nat} {l:List α} (hl:l.length≤n) (h:∀ a∈l,(g a).b.length≤B):(bn g m l).b.length≤4+n*B:=by
 unfold bn db
 rw [dx]
 have h1:=GK h
 have h2:=eS (l.length:Int) 2
 have h3:l.length*B≤n*B:=Nat.mul_le_mul_right _ hl
 dsimp only
 omega
structure SmP (N R:Nat) (x:Sch):Prop where
 f:x.fields.length≤N∧∀ a∈x.fields,oB a.name
 h:x.headers.length≤N∧∀ a∈x.headers,oB a.name∧a.fields.length≤R
 s:x.states.length≤N∧∀ a∈x.states,a.cases.length≤R∧∀ c∈a.cases,uE c
 a:x.actions.length≤N∧∀ a∈x.actions,m9 a∧a.params.length≤R∧a.body.length≤R
 t:x.tables.length≤N∧∀ a∈x.tables,pP a∧a.keys.length≤R∧a.actions.length≤R∧a.dargs.length≤R
 g:x.stages.length≤R
 r:x.roles.length≤N∧∀ a∈x.roles,oB a.name∧a.grants.length≤R∧a.actions.length≤R∧∀ q∈a.grants,q.keys.length≤R
 x:x.refs.length≤R
theorem SmP.ok {N R:Nat} {x:Sch} (h:SmP N R x):OkSch x :=
 ⟨h.f.2,fun a ha=>(h.h.2 a ha).1,fun a ha=>(h.s.2 a ha).2,fun a ha=>(h.a.2 a ha).1,fun a ha=>(h.t.2 a ha).1,fun a ha=>(h.r.2 a ha).1⟩
theorem SmP.mono {N R N' R':Nat} {x:Sch} (h:SmP N R x) (hN:N≤N') (hR:R≤R'):SmP N' R' x where
 f:=⟨Nat.le_trans h.f.1 hN,h.f.2⟩
 h:=⟨Nat.le_trans h.h.1 hN,fun a ha=>⟨(h.h.2 a ha).1,Nat.le_trans (h.h.2 a ha).2 hR⟩⟩
 s:=⟨Nat.le_trans h.s.1 hN,fun a ha=>⟨Nat.le_trans (h.s.2 a ha).1 hR,(h.s.2 a ha).2⟩⟩
 a:=⟨Nat.le_trans h.a.1 hN,fun a ha=>⟨(h.a.2 a ha).1,Nat.le_trans (h.a.2 a ha).2.1 hR,Nat.le_trans (h.a.2 a ha).2.2 hR⟩⟩
 t:=⟨Nat.le_trans h.t.1 hN,fun a ha=>⟨(h.t.2 a ha).1,Nat.le_trans (h.t.2 a ha).2.1 hR,Nat.le_trans (h.t.2 a ha).2.2.1 hR,Nat.le_trans (h.t.2 a ha).2.2.2 hR⟩⟩
 g:=Nat.le_trans h.g hR
 r:=⟨Nat.le_trans h.r.1 hN,fun a ha=>⟨(h.r.2 a ha).1,Nat.le_trans (h.r.2 a ha).2.1 hR,Nat.le_trans (h.r.2 a ha).2.2.1 hR,fun q hq=>Nat.le_trans ((h.r.2 a ha).2.2.2 q hq) hR⟩⟩
 x:=Nat.le_trans h.x hR
theorem SmP.len {x:Sch} (h:SmP 50 1100000 x):(jf x).b.length≤dB:=by
 have e1:(bn gz 32 x.fields).b.length≤4+50*65545:=gY h.f.1 fun a _=>by
  unfold gz;rw [dx,dx]
  have:=eO a.id 2;have:=oc a.name 24;have:=eO a.bits 1;omega
 have e2:(bn fT 8 x.headers).b.length≤4+50*(65545+1100000*4):=gY h.h.1 fun a ha=>by
  unfold fT;rw [dx,dx]
  have:=eO a.id 2;have:=oc a.name 24
  have:=gY (g:=jH) (m:=32) (h.h.2 a ha).2 (B:=4) fun n _=>eO n 2
  omega
 have e3:(bn iY 12 x.states).b.length≤4+50*(20+1100000*38):=gY h.s.1 fun a ha=>by
  unfold iY;rw [dx,dx,dx,dx]
  have:=eO a.id 2;have:=eO a.header 2;have:=eO a.select 2;have:=eO a.dflt 2
  have:=gY (g:=l9) (m:=6) (h.s.2 a ha).1 (B:=38) fun c hc=>by
   unfold l9;rw [dx,dx]
   have:=xI ((h.s.2 a ha).2 c hc).1;have:=xI ((h.s.2 a ha).2 c hc).2;have:=eO c.next 2;omega
  omega
 have e4:(bn eJ 12 x.actions).b.length≤4+50*(131086+1100000*65541+1100000*33):=gY h.a.1 fun a ha=>by
  unfold eJ;rw [dx,dx,dx,dx]
  obtain ⟨h1,h2,h3⟩:=h.a.2 a ha
  have:=eO a.id 2;have:=oc a.name 24;have:=oc a.restr 400
  have:=gY (g:=js) (m:=4) h2 (B:=65541) fun c hc=>by
   unfold js;rw [dx]
   have:=oc c.name 24;have:=eO c.bits 1;omega
  have:=gY (g:=mE) (m:=12) h3 (B:=33) fun c hc=>by
   unfold mE;rw [dx,dx,dx,dx]
   have:=eO c.op 1;have:=eO c.dst 2;have:=eO c.kind 1;have:=eO c.n 2;have:=xI (h1.2.2.1 c hc);omega
  omega
 have e5:(bn gB 8 x.tables).b.length≤4+50*(131098+1100000*65545+1100000*4+1100000*17):=gY h.t.1 fun a ha=>by
  unfold gB;simp only [dx]
  obtain ⟨h1,h2,h3,h4⟩:=h.t.2 a ha
  have:=eO a.id 2;have:=oc a.name 24;have:=oc a.restr 400;have:=eO a.dflt 2;have:=eO a.size 2
  have:=gY (g:=oD) (m:=4) h2 (B:=65545) fun c hc=>by
   unfold oD;rw [dx,dx]
   have:=oc c.name 24;have:=eO c.field 2;have:=eO c.kind 1;omega
  have:=gY (g:=jH) (m:=12) h3 (B:=4) fun n _=>eO n 2
  have:=gY (g:=jK) (m:=4) h4 (B:=17) fun v hv=>xI (h1.2.2.1 v hv)
  omega
 have e6:(bn im 12 x.stages).b.length≤4+1100000*8:=gY h.g fun a _=>by
  unfold im;rw [dx]
  have:=eO a.table 2;have:=eO a.header 2;omega
 have e7:(bn kr 6 x.roles).b.length≤4+50*(65560+1100000*(10+1100000*1)+1100000*4):=gY h.r.1 fun a ha=>by
  unfold kr;simp only [dx]
  obtain ⟨h1,h2,h3,h4⟩:=h.r.2 a ha
  have:=eO a.id 2;have:=oc a.name 24;have:=eO a.quota 2;have:=yr a.audit
  have:=gY (g:=jp) (m:=8) h2 (B:=10+1100000*1) fun c hc=>by
   unfold jp;simp only [dx]
   have:=eO c.table 2;have:=yr c.read;have:=yr c.write
   have:=gY (g:=i5) (m:=4) (h4 c hc) (B:=1) fun y _=>yr y
   omega
  have:=gY (g:=jH) (m:=12) h3 (B:=4) fun n _=>eO n 2
  omega
 have e8:(bn qq 8 x.refs).b.length≤4+1100000*24:=gY h.x fun a _=>by
  unfold qq;simp only [dx]
  have:=eO a.table 2;have:=eO a.key 1;have:=eO a.action 2;have:=eO a.param 1;have:=eO a.toTable 2;have:=eO a.toKey 1;omega
 unfold jf fC
 simp only [dx]
 rw [bJ]
 have:=eO x.maxBatch 2;have:=eO x.budget 2
 omega
theorem Az:tSl Tryz.prog 39 34:=kSl
attribute [go_sem] Az
theorem fI {s:List UInt8} (h:s.length≤1000):oB s:=by unfold oB;rw [bJ];omega
theorem jG {v:Nat} (h:v≤1000):rm v:=by unfold rm;omega
theorem vZ (b:List UInt8) (v:Nat):(dy b v).1.length≤40∧∀ a∈(dy b v).1,a.cases.length≤1000∧∀ c∈a.cases,uE c:=by
 have h2:=lQ (b:=b) (v:=v+2) (n:=2) (by decide)
 have h6:=lQ (b:=b) (v:=v+6) (n:=3) (by decide)
 have h4:=lQ (b:=b) (v:=v+4) (n:=3) (by decide)
 unfold dy
 (repeat' split)<;>refine ⟨by simp,fun a ha=>?_⟩<;>simp only [List.mem_cons,List.not_mem_nil,or_false] at ha<;>rcases ha with rfl|rfl|rfl<;>refine ⟨by simp,fun c hc=>?_⟩ <;>
   simp only [List.mem_cons,List.not_mem_nil,or_false] at hc <;>
   first
    |exact hc.elim
    |(subst hc;exact ⟨jG (by dsimp only;omega),jG (by dsimp only;omega)⟩)
    |(rcases hc with rfl|rfl<;>exact ⟨jG (by dsimp only;omega),jG (by dsimp only;omega)⟩)
    |(rcases hc with rfl|rfl|rfl<;>exact ⟨jG (by dsimp only;omega),jG (by dsimp only;omega)⟩)
theorem tK (b:List UInt8) (v:Nat):(fU b v).length=6∧∀ a∈fU b v,m9 a∧a.params.length≤1000∧a.body.length≤1000:=by
 have h1:=lQ (b:=b) (v:=v+1) (n:=256) (by decide)
 refine ⟨rfl,fun a ha=>?_⟩
 simp only [fU,List.mem_cons,List.not_mem_nil,or_false] at ha
 rcases ha with rfl|rfl|rfl|rfl|rfl|rfl<;>refine ⟨⟨fI (by simp),fun p hp=>?_,fun p hp=>?_,fI (by dsimp only;(try split)<;>simp)⟩,by simp,by simp⟩<;>simp only [List.mem_cons,List.not_mem_nil,or_false] at hp <;>
  first
   |exact hp.elim
   |(subst hp;first|exact fI (by simp)|exact jG (by dsimp only;omega))
   |(rcases hp with rfl|rfl<;>first|exact fI (by simp)|exact jG (by dsimp only;omega))
   |(rcases hp with rfl|rfl|rfl<;>first|exact fI (by simp)|exact jG (by dsimp only;omega))
theorem nP {L:List (List UInt8)} (h:∀ s∈L,s.length≤1000) (i:Nat):oB (L.getD i []):=by
 rw [gEq]
 cases hi:L[i]? with
 |none=>exact fI (by simp)
 |some s=>exact fI (h s (List.mem_of_getElem? hi))
theorem vI (b:List UInt8) (v:Nat):(fw b v).length=4∧∀ a∈fw b v,pP a∧a.keys.length≤1000∧a.actions.length≤1000∧a.dargs.length≤1000:=by
 refine ⟨rfl,fun a ha=>?_⟩
 simp only [fw,List.mem_cons,List.not_mem_nil,or_false] at ha
 rcases ha with rfl|rfl|rfl|rfl
 ·refine ⟨⟨fI (by simp [ln]),fun k hk=>?_,by simp [ln],nP (by decide) _⟩,by simp [ln],by simp [ln],by simp [ln]⟩
  simp only [ln,List.mem_cons,List.not_mem_nil,or_false] at hk
  subst hk;exact fI (by simp)
 ·refine ⟨⟨fI (by simp [ls]),fun k hk=>?_,by simp [ls],nP (by decide) _⟩,by simp only [ls];split<;>simp,by simp [ls],by simp [ls]⟩
  simp only [ls] at hk
  split at hk<;>simp only [yal,yak,yaj,List.mem_cons,List.not_mem_nil,or_false] at hk
  ·rcases hk with rfl|rfl<;>exact fI (by simp)
  ·subst hk;exact fI (by simp)
 ·refine ⟨⟨fI (by simp [gu]),fun k hk=>?_,by simp [gu],nP (by decide) _⟩,by simp only [gu];split<;>simp,by simp [gu],by simp [gu]⟩
  simp only [gu] at hk
  split at hk<;>simp only [yal,yak,yaj,List.mem_cons,List.not_mem_nil,or_false] at hk
  ·rcases hk with rfl|rfl|rfl<;>exact fI (by simp)
  ·rcases hk with rfl|rfl<;>exact fI (by simp)
 ·refine ⟨⟨fI (by simp [gv]),fun k hk=>?_,fun x hx=>?_,nP (by decide) _⟩,by simp only [gv];split<;>simp,by simp [gv],by simp [gv]⟩
  ·simp only [gv] at hk
   split at hk<;>simp only [yal,yak,yaj,List.mem_cons,List.not_mem_nil,or_false] at hk
   ·rcases hk with rfl|rfl|rfl<;>exact fI (by simp)
   ·subst hk;exact fI (by simp)
  ·simp only [gv,List.mem_singleton] at hx
   subst hx;exact jG (by omega)
def GrOk (n:Nat) (l:List SGrant):Prop:=l.length≤n∧∀ q∈l,q.keys.length≤1000
theorem GrOk.nil {n:Nat}:GrOk n []:=⟨Nat.zero_le _,fun q hq=>by cases hq⟩
theorem GrOk.cons {n:Nat} {l:List SGrant} {q:SGrant} (h:GrOk n l) (hq:q.keys.length≤1000):GrOk (n+1) (q::l) :=
 ⟨Nat.succ_le_succ h.1,fun x hx=>(List.mem_cons.1 hx).elim (fun e=>e ▸ hq) (h.2 x)⟩
theorem GrOk.up {n:Nat} {l:List SGrant} (h:GrOk n l):GrOk (n+1) l:=⟨Nat.le_succ_of_le h.1,h.2⟩
theorem jN (b:List UInt8):∀ (ts:List STable) (v:Nat),(∀ t∈ts,t.keys.length≤1000)→GrOk ts.length (fB b ts v).1.1∧GrOk ts.length (fB b ts v).1.2.1∧GrOk ts.length (fB b ts v).1.2.2
 |[],v,_=>⟨.nil,.nil,.nil⟩
 |t::ts,v,h=>by
  have ht:=h t List.mem_cons_self
  have hp:∀ v,(lP b v t.keys.length).length≤1000:=fun v=>by simp [lP];exact ht
  have hr:(List.replicate t.keys.length true).length≤1000:=by simp;exact ht
  simp only [fB]
  rw [yaz]
  split<;>split
  ·obtain ⟨i1,i2,i3⟩:=jN b ts (v+t.keys.length+3+3) fun x hx=>h x (List.mem_cons_of_mem _ hx)
   exact ⟨i1.cons hr,i2.cons (hp _),i3.cons hr⟩
  ·obtain ⟨i1,i2,i3⟩:=jN b ts (v+t.keys.length+3+1) fun x hx=>h x (List.mem_cons_of_mem _ hx)
   exact ⟨i1.cons hr,i2.cons (hp _),i3.up⟩
  ·obtain ⟨i1,i2,i3⟩:=jN b ts (v+t.keys.length+1+3) fun x hx=>h x (List.mem_cons_of_mem _ hx)
   exact ⟨i1.cons hr,i2.up,i3.cons hr⟩
  ·obtain ⟨i1,i2,i3⟩:=jN b ts (v+t.keys.length+1+1) fun x hx=>h x (List.mem_cons_of_mem _ hx)
   exact ⟨i1.cons hr,i2.up,i3.up⟩
theorem tT (b:List UInt8) (v:Nat):SmP 40 1000 (gL b v).1:=by
 unfold gL
 dsimp only
 obtain ⟨t1,t2⟩:=vI b (cp (dy b (cp v 2)).2 4)
 obtain ⟨a1,a2⟩:=tK b (dy b (cp v 2)).2
 refine ⟨⟨(by decide:gFields.length≤40),fun a ha=>?_⟩,⟨(by decide:gHeaders.length≤40),fun a ha=>?_⟩,vZ b _,⟨by dsimp only;omega,a2⟩,⟨by dsimp only;omega,t2⟩,?_,⟨by simp [kT],fun a ha=>?_⟩,?_⟩
 ·simp only [gFields,List.mem_cons,List.not_mem_nil,or_false] at ha
  rcases ha with rfl|rfl|rfl|rfl|rfl|rfl|rfl|rfl|rfl<;>exact fI (by simp)
 ·simp only [gHeaders,List.mem_cons,List.not_mem_nil,or_false] at ha
  rcases ha with rfl|rfl|rfl<;>exact ⟨fI (by simp),by simp⟩
 ·split<;>simp
 ·obtain ⟨g1,g2,g3⟩:=jN b (fw b (cp (dy b (cp v 2)).2 4)) (cp (dy b (cp v 2)).2 16+4) fun t ht=>(t2 t ht).2.1
  rw [t1] at g1 g2 g3
  simp only [kT,List.mem_cons,List.not_mem_nil,or_false] at ha
  rcases ha with rfl|rfl|rfl
  ·exact ⟨fI (by simp),by have:=g1.1;dsimp only;omega,by simp,g1.2⟩
  ·exact ⟨fI (by simp),by have:=g2.1;dsimp only;omega,by simp,g2.2⟩
  ·exact ⟨fI (by simp),by have:=g3.1;dsimp only;omega,by simp,g3.2⟩
 ·(repeat' split)<;>simp
theorem wd {b:List UInt8}:zod b 0=gI b (cp 0 0):=by
 unfold zod gI cp
 simp
end Go.AL
