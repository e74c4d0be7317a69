/- Lemmas of the proof; no condition. -/
import Derived.Test.YtjffcopmhkcejaaGreatW03j
set_option linter.all false
set_option maxRecDepth 10000
set_option maxHeartbeats 32000000
open Go Go.AL Go.Proofs
namespace Go.AL
theorem E0:ti Tryz.prog 34=some ⟨.struct [(0,25,false),(1,26,false),(2,27,false),(3,28,false),(4,29,false),(5,30,false),(6,31,false),(7,32,false),(8,3,false),(9,3,false)],10,208,.agg [.slice .nil 1 [],.slice .nil 1 [],.slice .nil 1 [],.slice .nil 1 [],.slice .nil 1 [],.slice .nil 1 [],.slice .nil 1 [],.slice .nil 1 [],.int .i64 0,.int .i64 0]⟩:=krf
attribute [go_sem] E0
def om{n sz:Nat}:AV.lt n (.slice .any sz []):=xK fun x hx=>absurd hx Xc
def sk(x:Sch):By × Int :=
 if(iP x).l=true then([],3)else if(iP x).f=true then([],2)else if(iP x).a=true then([],4)else if 8000<(iP x).b.length then([],3)else((iP x).b,0)
def kw:PCt
 |[.agg l],_,K=>∃ x:Sch,(l=aR x∧OkSch x∧(iP x).b.length≤dX)∧K (.tup [.slice .any 1 (bys (sk x).1),.int .i64 (sk x).2])
 |_,_,_=>False
theorem SOn.leq{H HB:AHeap}{id q:Nat}{s0 s:Enc}(hW:SOn HB id q s0)(hle:H.Le HB)(h1:H.nx≤id)(h2:H.nx≤q):H.Le (swH HB id q s):=by
 refine⟨hle.nx,fun j x hj=>?_⟩
 have hj2:=glq hj
 unfold swH
 rw[AHeap.get_set_ne _ _ Xa,AHeap.get_set_ne _ _ (Xa)]
 exact hle.get _ _ hj
def sj{x:Sch}{RE:By × Int}(h:sk x=RE) :
 ((iP x).l=true∧RE=([],3))∨((iP x).l=false∧(iP x).f=true∧RE=([],2))∨((iP x).l=false∧(iP x).f=false∧(iP x).a=true∧RE=([],4)) ∨
 ((iP x).l=false∧(iP x).f=false∧(iP x).a=false∧8000<(iP x).b.length∧RE=([],3))∨((iP x).l=false∧(iP x).f=false∧(iP x).a=false∧(iP x).b.length≤8000∧RE=((iP x).b,0)):=by
 subst h
 unfold sk
 cases(iP x).l<;>cases(iP x).f<;>cases(iP x).a<;>simp
 omega
def DY(x:Sch):enc0.add (iP x)=(((((((((enc0.add (b8 x.maxBatch 2)).add (b8 x.budget 2)).add (bn gy 32 x.fields)).add (bn fT 8 x.headers)).add (bn iD 12 x.states)).add (bn eO 12 x.actions)).add (bn gx 8 x.tables)).add (bn hZ 12 x.stages)).add (bn ky 6 x.roles)).add (bn pU 8 x.refs):=by
 unfold iP fH
 simp only[aI]
def CV:=kw
def PU:EPp 23 CV:=by
 unfold CV
 refine Ype fun _ H K h=>?_
 unfold kw at h
 split at h<;>try exact h.elim
 rename_i l
 obtain⟨x,⟨rfl,ha,hl⟩,hK⟩:=h
 refine⟨_,hK,?_⟩
 clear hK
 refine Yfw aD (tCq jv (tCq KU (tCq F9 (tCq K3 (tCq FE (tCq Jy (tCq Fg (tCq Ir (tCq EW (tCq KC (tCq E9 (tCq L6 (tCq FB (tCq LV (tCq Gx (tCq ID (tCq Gm tNq))))))))))))))))) Tryz.func23 [.tmp 2,.tmp 3] (nrq _) (T:=aC [(4,[[],[],[],[0,2]]),(5,[[],[],[],[0,2]]),(6,[[],[],[],[0,2]]),(7,[[],[],[],[0,2]]),(8,[[],[],[],[0,2]]),(9,[[],[],[],[0,2]]),(10,[[],[],[],[0,2]]),(11,[[],[],[],[0,2]]),(2,[[1]])]) (h:=fun hcl=>?_)
 simp only[go_sem,aR,cW]
 refine xW 4 0 1 (cs:=[AV.slice .nil 1 [],.bool false,.bool false,.bool false]) rfl Xo rfl ?_
 obtain⟨HB,hHB⟩:∃ HB,HB=(((H.push (.cells (aR x))).push (.buf 1 0)).push (.cells (swC (H.nx+1+1+1) [] false false false))).push (.buf 1 0):=⟨_,rfl⟩
 have hnB:HB.nx=H.nx+1+1+1+1:=by rw[hHB];rfl
 have hW:SOn HB (H.nx+1+1) (H.nx+1+1+1) enc0:=by
  exact Y152
 have hcB:HB.Closed:=by
  exact Y57
 have hcr:a8 HB H.nx=some (aR x):=by rw[hHB];simp only[go_sem]
 have hle:H.Le HB:=by rw[hHB];repeat first|exact .refl _|refine .push ?_ _
 have hcw:∀ s,a8 (swH HB (H.nx+1+1) (H.nx+1+1+1) s) H.nx=some (aR x):=fun s=>by rw[xQ (by omega) (by omega),hcr]
 have hcI:∀ s,a8 (swH HB (H.nx+1+1) (H.nx+1+1+1) s) (H.nx+1+1)=some (swC (H.nx+1+1+1) s.b s.l s.f s.a):=fun s=>aB (hW.next s).o
 have hlW:∀ s,H.Le (swH HB (H.nx+1+1) (H.nx+1+1+1) s):=fun s=>hW.leq hle Xa Xa
 have hcl1:=fun t=>hW.closed (t:=t) hcB
 have hF:=hW.facts
 refine Tq80 ?_
 rw[show(((H.push (.cells [.slice .any 3 (x.fields.map aJ),.slice .any 3 (x.headers.map az),.slice .any 5 (x.states.map aE),.slice .any 5 (x.actions.map ap),.slice .any 8 (x.tables.map au),.slice .any 2 (x.stages.map aQ),.slice .any 6 (x.roles.map aP),.slice .any 6 (x.refs.map bc),.int .i64 x.maxBatch,.int .i64 x.budget])).push (.buf 1 0)).push (.cells [.slice (.own (H.nx+1+1+1)) 1 [],.bool false,.bool false,.bool false])).push (.buf 1 0)=HB from hHB.symm]
 clear hHB
 obtain⟨RE,hRE⟩:∃ RE,sk x=RE:=⟨_,rfl⟩
 have hR:=sj hRE
 rw[hRE]
 have hTot:=DY x
 rw[vF]at hTot
 rw[hTot]at hl
 have hl10:=hl
 have hl9:=aT hl10
 have hl8:=aT hl9
 have hl7:=aT hl8
 have hl6:=aT hl7
 have hl5:=aT hl6
 have hl4:=aT hl5
 have hl3:=aT hl4
 have hl2:=aT hl3
 have hl1:=aT hl2
 try simp only[go_sem,hcw,hcI,swC,aR,ak,hnB,ybb,hcr,kB,kH,kG,kC,kD,kA,kE,kF]
 refine dk (.inr rfl) hW hl1 ?_
 refine Tq21 ?_
 refine dk (.inr rfl) (hW.next _) hl2 ?_
 rw[hF.pp]
 refine Tq21 ?_
 refine lK (c:=aJ) (ha.f) (hW.next _) hl3 ?_
 rw[hF.pp]
 refine Tq21 ?_
 refine lK (c:=az) (ha.h) (hW.next _) hl4 ?_
 rw[hF.pp]
 refine Tq21 ?_
 refine lK (c:=aE) (ha.s) (hW.next _) hl5 ?_
 rw[hF.pp]
 refine Tq21 ?_
 refine lK (c:=ap) (ha.a) (hW.next _) hl6 ?_
 rw[hF.pp]
 refine Tq21 ?_
 refine lK (c:=au) (ha.t) (hW.next _) hl7 ?_
 rw[hF.pp]
 refine Tq21 ?_
 refine lK (c:=aQ) (fun _ _=>trivial) (hW.next _) hl8 ?_
 rw[hF.pp]
 refine Tq21 ?_
 refine lK (c:=aP) (ha.r) (hW.next _) hl9 ?_
 rw[hF.pp]
 refine Tq21 ?_
 refine lK (c:=bc) (fun _ _=>trivial) (hW.next _) hl10 ?_
 rw[hF.pp]
 rw[← hTot]
 rcases hR with⟨h1,rfl⟩|⟨h1,h2,rfl⟩|⟨h1,h2,h3,rfl⟩|⟨h1,h2,h3,h4,rfl⟩|⟨h1,h2,h3,h4,rfl⟩
 ·skip
  try simp only[go_sem,hcw,hcI,swC,aR,ak,hnB,ybb,h1,zli]
  exact Y22
 ·skip
  try simp only[go_sem,hcw,hcI,swC,aR,ak,hnB,ybb,h1,h2,zli]
  exact Y22
 ·skip
  try simp only[go_sem,hcw,hcI,swC,aR,ak,hnB,ybb,h1,h2,h3,zli]
  exact Y22
 ·skip
  have d4:decide (((iP x).b.length:Int)>8000)=true:=dtq Xa
  refine Tq44 ?_
  exact Y22
 ·skip
  have d4:decide (((iP x).b.length:Int)>8000)=false:=dfq Xa
  refine Tq44 ?_
  exact Y22
def Dt:=kw
def Qr:EPp 32 Dt:=by
 unfold Dt
 refine Ype fun _ H K h=>?_
 unfold kw at h
 split at h<;>try exact h.elim
 rename_i l
 obtain⟨x,⟨rfl,ha,hl⟩,hK⟩:=h
 refine⟨_,hK,?_⟩
 clear hK
 refine Yfw aD (tCq Od (tCq rj (tCq qW (tCq QM (tCq QE (tCq PS tNq)))))) Tryz.func32 [.tmp 2,.tmp 3] (nrq _) (T:=aC [(2,[[1]])]) (h:=fun hcl=>?_)
 simp only[go_sem,aR,cW]
 refine xW 4 0 1 (cs:=[AV.slice .nil 1 [],.bool false,.bool false,.bool false]) rfl Xo rfl ?_
 obtain⟨HB,hHB⟩:∃ HB,HB=(((H.push (.cells (aR x))).push (.buf 1 0)).push (.cells (swC (H.nx+1+1+1) [] false false false))).push (.buf 1 0):=⟨_,rfl⟩
 have hnB:HB.nx=H.nx+1+1+1+1:=by rw[hHB];rfl
 have hW:SOn HB (H.nx+1+1) (H.nx+1+1+1) enc0:=by
  exact Y152
 have hcB:HB.Closed:=by
  exact Y57
 have hcr:a8 HB H.nx=some (aR x):=by rw[hHB];simp only[go_sem]
 have hle:H.Le HB:=by rw[hHB];repeat first|exact .refl _|refine .push ?_ _
 have hcw:∀ s,a8 (swH HB (H.nx+1+1) (H.nx+1+1+1) s) H.nx=some (aR x):=fun s=>by rw[xQ (by omega) (by omega),hcr]
 have hcI:∀ s,a8 (swH HB (H.nx+1+1) (H.nx+1+1+1) s) (H.nx+1+1)=some (swC (H.nx+1+1+1) s.b s.l s.f s.a):=fun s=>aB (hW.next s).o
 have hlW:∀ s,H.Le (swH HB (H.nx+1+1) (H.nx+1+1+1) s):=fun s=>hW.leq hle Xa Xa
 have hcl1:=fun t=>hW.closed (t:=t) hcB
 have hF:=hW.facts
 refine Tq80 ?_
 rw[show(((H.push (.cells [.slice .any 3 (x.fields.map aJ),.slice .any 3 (x.headers.map az),.slice .any 5 (x.states.map aE),.slice .any 5 (x.actions.map ap),.slice .any 8 (x.tables.map au),.slice .any 2 (x.stages.map aQ),.slice .any 6 (x.roles.map aP),.slice .any 6 (x.refs.map bc),.int .i64 x.maxBatch,.int .i64 x.budget])).push (.buf 1 0)).push (.cells [.slice (.own (H.nx+1+1+1)) 1 [],.bool false,.bool false,.bool false])).push (.buf 1 0)=HB from hHB.symm]
 clear hHB
 obtain⟨RE,hRE⟩:∃ RE,sk x=RE:=⟨_,rfl⟩
 have hR:=sj hRE
 rw[hRE]
 have hTot:=DY x
 rw[vF]at hTot
 have hPk:((((enc0.add (b8 x.maxBatch 2)).add (b8 x.budget 2)).add (bn gy 32 x.fields)).add (bn fT 8 x.headers)).add (bn iD 12 x.states)=((enc0.add (b8 x.maxBatch 2)).add (b8 x.budget 2)).add (fH x):=by
  unfold fH
  simp only[aI]
 rw[hPk]at hTot
 rw[hTot]at hl
 have hl8:=hl
 have hl7:=aT hl8
 have hl6:=aT hl7
 have hl5:=aT hl6
 have hl4:=aT hl5
 have hl3:=aT hl4
 have hl2:=aT hl3
 have hl1:=aT hl2
 try simp only[hcr,go_sem,hcw,hcI,swC,aR,ak,hnB,ybb,bT,bU,bS,bK,bV,bO,bR,bP,bQ,bL,bJ,bH,bI,AV.cells,ap,ba,aJ,aK,az,aZ,aL,aU,bc,aP,aQ,aE,au,vc,inL,boL,ak]
 refine dk (.inr rfl) hW hl1 ?_
 refine Tq2 ?_
 refine dk (.inr rfl) (hW.next _) hl2 ?_
 rw[hF.pp]
 refine Tq2 ?_
 refine pS (c:=cW) (ok:=OkSch) (g:=fH) ha (hW.next _) hl3 ?_
 rw[hF.pp]
 have hE10:((((enc0.add (b8 x.maxBatch 2)).add (b8 x.budget 2)).add (fH x))).add (bn eO 12 x.actions)=(((((enc0.add (b8 x.maxBatch 2)).add (b8 x.budget 2)).add (fH x))).add (dy x.actions.length 12)).add (bX eO x.actions):=iq
 have hT10:=hl4
 rw[hE10]at hT10
 have hN10:=gX xb hT10
 refine Tq2 ?_
 refine mL (hW.next _) (aT hT10) ?_
 rw[hF.pp]
 refine Tq2 ?_
 refine aG (A:=Nat) (fun k=>[(1,.ptr H.nx 0),(4,.ptr (H.nx+1+1) 0),(34,.slice .any 5 (x.actions.map (ap))),(35,.int .i64 (x.actions.length:Int)),(36,.int .i64 (k:Int))]) (fun k=>swH HB (H.nx+1+1) (H.nx+1+1+1) ((((((enc0.add (b8 x.maxBatch 2)).add (b8 x.budget 2)).add (fH x))).add (dy x.actions.length 12)).add (bX eO (x.actions.take k)))) (fun k=>k≤x.actions.length) (fun k=>x.actions.length-k) 0 Xa ?_ fun k1 hk1=>?_
 ·rw[yar,bX,di]
  refine eNt (hcl1 _) ?_ ?_ (a:=Xi)
  ·exact Y16
  ·exact Y14
 refine Tq20 ?_
 refine ax (fun hc=>?_) (fun hc=>?_)
 ·have hk1':k1<x.actions.length:=sHc
  obtain⟨x1,hx1⟩:∃ x1,x1=x.actions[k1]:=⟨_,rfl⟩
  have hg1:=cN (f:=ap) (l:=x.actions) (k:=k1) (x:=x1) (by rw[gQq hk1',hx1])
  have e15:IntKind.i64.wrap ((k1:Int)+1)=((k1+1:Nat):Int):=Xe
  have ho1:=(ha.a) x1 (by rw[hx1];exact gMq hk1')
  obtain⟨es1,hlk1⟩:=dw (g:=eO) hk1' hx1 hT10
  simp only[go_sem,hcw,hcI,swC,aR,iNq,ybb,hg1,ap,ak,hnB,ybb,bT,bU,bS,bK,bV,bO,bR,bP,bQ,bL,bJ,bH,bI,AV.cells,ap,ba,aJ,aK,az,aZ,aL,aU,bc,aP,aQ,aE,au,vc,inL,boL,ak]
  refine⟨Xa,?_⟩
  skip
  refine pS (c:=ap) (ho1) ((hW.next _).push _) hlk1 ?_
  rw[hF.p1]
  rw[es1]
  refine Tq69 ?_
  refine⟨k1+1,Xa,Xa,eNt (hcl1 _) ?_ ?_ (a:=Xi)⟩
  ·exact Y18
  ·exact Y14
 ·have hk1':k1=x.actions.length:=sHc
  subst hk1'
  rw[List.take_length]
  rw[← hE10]
  have hE11:((((((enc0.add (b8 x.maxBatch 2)).add (b8 x.budget 2)).add (fH x))).add (bn eO 12 x.actions))).add (bn gx 8 x.tables)=(((((((enc0.add (b8 x.maxBatch 2)).add (b8 x.budget 2)).add (fH x))).add (bn eO 12 x.actions))).add (dy x.tables.length 8)).add (bX gx x.tables):=iq
  have hT11:=hl5
  rw[hE11]at hT11
  have hN11:=gX xF hT11
  refine Tq2 ?_
  refine mL (hW.next _) (aT hT11) ?_
  rw[hF.pp]
  refine Tq2 ?_
  refine aG (A:=Nat) (fun k=>[(1,.ptr H.nx 0),(4,.ptr (H.nx+1+1) 0),(50,.slice .any 8 (x.tables.map (au))),(51,.int .i64 (x.tables.length:Int)),(52,.int .i64 (k:Int))]) (fun k=>swH HB (H.nx+1+1) (H.nx+1+1+1) ((((((((enc0.add (b8 x.maxBatch 2)).add (b8 x.budget 2)).add (fH x))).add (bn eO 12 x.actions))).add (dy x.tables.length 8)).add (bX gx (x.tables.take k)))) (fun k=>k≤x.tables.length) (fun k=>x.tables.length-k) 0 Xa ?_ fun k1 hk1=>?_
  ·rw[yar,bX,di]
   refine eNt (hcl1 _) ?_ ?_ (a:=Xi)
   ·exact Y16
   ·exact Y14
  refine Tq20 ?_
  refine ax (fun hc=>?_) (fun hc=>?_)
  ·have hk1':k1<x.tables.length:=sHc
   obtain⟨x1,hx1⟩:∃ x1,x1=x.tables[k1]:=⟨_,rfl⟩
   have hg1:=cN (f:=au) (l:=x.tables) (k:=k1) (x:=x1) (by rw[gQq hk1',hx1])
   have e15:IntKind.i64.wrap ((k1:Int)+1)=((k1+1:Nat):Int):=Xe
   have ho1:=(ha.t) x1 (by rw[hx1];exact gMq hk1')
   obtain⟨es1,hlk1⟩:=dw (g:=gx) hk1' hx1 hT11
   simp only[go_sem,hcw,hcI,swC,aR,iNq,ybb,hg1,au,ak,hnB,ybb,bT,bU,bS,bK,bV,bO,bR,bP,bQ,bL,bJ,bH,bI,AV.cells,ap,ba,aJ,aK,az,aZ,aL,aU,bc,aP,aQ,aE,au,vc,inL,boL,ak]
   refine⟨Xa,?_⟩
   skip
   refine pS (c:=au) (ho1) ((hW.next _).push _) hlk1 ?_
   rw[hF.p1]
   rw[es1]
   refine Tq69 ?_
   refine⟨k1+1,Xa,Xa,eNt (hcl1 _) ?_ ?_ (a:=Xi)⟩
   ·exact Y18
   ·exact Y14
  ·have hk1':k1=x.tables.length:=sHc
   subst hk1'
   rw[List.take_length]
   rw[← hE11]
   have hE12:((((((((enc0.add (b8 x.maxBatch 2)).add (b8 x.budget 2)).add (fH x))).add (bn eO 12 x.actions))).add (bn gx 8 x.tables))).add (bn hZ 12 x.stages)=(((((((((enc0.add (b8 x.maxBatch 2)).add (b8 x.budget 2)).add (fH x))).add (bn eO 12 x.actions))).add (bn gx 8 x.tables))).add (dy x.stages.length 12)).add (bX hZ x.stages):=iq
   have hT12:=hl6
   rw[hE12]at hT12
   have hN12:=gX yg hT12
   refine Tq2 ?_
   refine mL (hW.next _) (aT hT12) ?_
   rw[hF.pp]
   refine Tq2 ?_
   refine aG (A:=Nat) (fun k=>[(1,.ptr H.nx 0),(4,.ptr (H.nx+1+1) 0),(66,.slice .any 2 (x.stages.map (aQ))),(67,.int .i64 (x.stages.length:Int)),(68,.int .i64 (k:Int))]) (fun k=>swH HB (H.nx+1+1) (H.nx+1+1+1) ((((((((((enc0.add (b8 x.maxBatch 2)).add (b8 x.budget 2)).add (fH x))).add (bn eO 12 x.actions))).add (bn gx 8 x.tables))).add (dy x.stages.length 12)).add (bX hZ (x.stages.take k)))) (fun k=>k≤x.stages.length) (fun k=>x.stages.length-k) 0 Xa ?_ fun k1 hk1=>?_
   ·rw[yar,bX,di]
    refine eNt (hcl1 _) ?_ ?_ (a:=Xi)
    ·exact Y16
    ·exact Y14
   refine Tq20 ?_
   refine ax (fun hc=>?_) (fun hc=>?_)
   ·have hk1':k1<x.stages.length:=sHc
    obtain⟨x1,hx1⟩:∃ x1,x1=x.stages[k1]:=⟨_,rfl⟩
    have hg1:=cN (f:=aQ) (l:=x.stages) (k:=k1) (x:=x1) (by rw[gQq hk1',hx1])
    have e15:IntKind.i64.wrap ((k1:Int)+1)=((k1+1:Nat):Int):=Xe
    obtain⟨es1,hlk1⟩:=dw (g:=hZ) hk1' hx1 hT12
    simp only[go_sem,hcw,hcI,swC,aR,iNq,ybb,hg1,aQ,ak,hnB,ybb,bT,bU,bS,bK,bV,bO,bR,bP,bQ,bL,bJ,bH,bI,AV.cells,ap,ba,aJ,aK,az,aZ,aL,aU,bc,aP,aQ,aE,au,vc,inL,boL,ak]
    refine⟨Xa,?_⟩
    rw[show hZ x1=((b8 x1.table 2).add (b8 x1.header 2)) from rfl]at es1 hlk1
    rw[← aI]at hlk1
    rw[← aI]at es1
    have hm10:=aT hlk1
    refine Tq43 ?_
    refine dk (.inr rfl) ((hW.next _).push _) hm10 ?_
    rw[hF.p1]
    refine Tq43 ?_
    refine dk (.inr rfl) ((hW.next _).push _) hlk1 ?_
    rw[hF.p1]
    rw[es1]
    refine Tq69 ?_
    refine⟨k1+1,Xa,Xa,eNt (hcl1 _) ?_ ?_ (a:=Xi)⟩
    ·exact Y18
    ·exact Y14
   ·have hk1':k1=x.stages.length:=sHc
    subst hk1'
    rw[List.take_length]
    rw[← hE12]
    have hE13:((((((((((enc0.add (b8 x.maxBatch 2)).add (b8 x.budget 2)).add (fH x))).add (bn eO 12 x.actions))).add (bn gx 8 x.tables))).add (bn hZ 12 x.stages))).add (bn ky 6 x.roles)=(((((((((((enc0.add (b8 x.maxBatch 2)).add (b8 x.budget 2)).add (fH x))).add (bn eO 12 x.actions))).add (bn gx 8 x.tables))).add (bn hZ 12 x.stages))).add (dy x.roles.length 6)).add (bX ky x.roles):=iq
    have hT13:=hl7
    rw[hE13]at hT13
    have hN13:=gX AP hT13
    refine Tq2 ?_
    refine mL (hW.next _) (aT hT13) ?_
    rw[hF.pp]
    refine Tq2 ?_
    refine aG (A:=Nat) (fun k=>[(1,.ptr H.nx 0),(4,.ptr (H.nx+1+1) 0),(87,.slice .any 6 (x.roles.map (aP))),(88,.int .i64 (x.roles.length:Int)),(89,.int .i64 (k:Int))]) (fun k=>swH HB (H.nx+1+1) (H.nx+1+1+1) ((((((((((((enc0.add (b8 x.maxBatch 2)).add (b8 x.budget 2)).add (fH x))).add (bn eO 12 x.actions))).add (bn gx 8 x.tables))).add (bn hZ 12 x.stages))).add (dy x.roles.length 6)).add (bX ky (x.roles.take k)))) (fun k=>k≤x.roles.length) (fun k=>x.roles.length-k) 0 Xa ?_ fun k1 hk1=>?_
    ·rw[yar,bX,di]
     refine eNt (hcl1 _) ?_ ?_ (a:=Xi)
     ·exact Y16
     ·exact Y14
    refine Tq20 ?_
    refine ax (fun hc=>?_) (fun hc=>?_)
    ·have hk1':k1<x.roles.length:=sHc
     obtain⟨x1,hx1⟩:∃ x1,x1=x.roles[k1]:=⟨_,rfl⟩
     have hg1:=cN (f:=aP) (l:=x.roles) (k:=k1) (x:=x1) (by rw[gQq hk1',hx1])
     have e15:IntKind.i64.wrap ((k1:Int)+1)=((k1+1:Nat):Int):=Xe
     have ho1:=(ha.r) x1 (by rw[hx1];exact gMq hk1')
     obtain⟨es1,hlk1⟩:=dw (g:=ky) hk1' hx1 hT13
     simp only[go_sem,hcw,hcI,swC,aR,iNq,ybb,hg1,aP,ak,hnB,ybb,bT,bU,bS,bK,bV,bO,bR,bP,bQ,bL,bJ,bH,bI,AV.cells,ap,ba,aJ,aK,az,aZ,aL,aU,bc,aP,aQ,aE,au,vc,inL,boL,ak]
     refine⟨Xa,?_⟩
     skip
     refine pS (c:=aP) (ho1) ((hW.next _).push _) hlk1 ?_
     rw[hF.p1]
     rw[es1]
     refine Tq69 ?_
     refine⟨k1+1,Xa,Xa,eNt (hcl1 _) ?_ ?_ (a:=Xi)⟩
     ·exact Y18
     ·exact Y14
    ·have hk1':k1=x.roles.length:=sHc
     subst hk1'
     rw[List.take_length]
     rw[← hE13]
     have hE14:((((((((((((enc0.add (b8 x.maxBatch 2)).add (b8 x.budget 2)).add (fH x))).add (bn eO 12 x.actions))).add (bn gx 8 x.tables))).add (bn hZ 12 x.stages))).add (bn ky 6 x.roles))).add (bn pU 8 x.refs)=(((((((((((((enc0.add (b8 x.maxBatch 2)).add (b8 x.budget 2)).add (fH x))).add (bn eO 12 x.actions))).add (bn gx 8 x.tables))).add (bn hZ 12 x.stages))).add (bn ky 6 x.roles))).add (dy x.refs.length 8)).add (bX pU x.refs):=iq
     have hT14:=hl8
     rw[hE14]at hT14
     have hN14:=gX Eu hT14
     refine Tq2 ?_
     refine mL (hW.next _) (aT hT14) ?_
     rw[hF.pp]
     refine Tq2 ?_
     refine aG (A:=Nat) (fun k=>[(1,.ptr H.nx 0),(4,.ptr (H.nx+1+1) 0),(103,.slice .any 6 (x.refs.map (bc))),(104,.int .i64 (x.refs.length:Int)),(105,.int .i64 (k:Int))]) (fun k=>swH HB (H.nx+1+1) (H.nx+1+1+1) ((((((((((((((enc0.add (b8 x.maxBatch 2)).add (b8 x.budget 2)).add (fH x))).add (bn eO 12 x.actions))).add (bn gx 8 x.tables))).add (bn hZ 12 x.stages))).add (bn ky 6 x.roles))).add (dy x.refs.length 8)).add (bX pU (x.refs.take k)))) (fun k=>k≤x.refs.length) (fun k=>x.refs.length-k) 0 Xa ?_ fun k1 hk1=>?_
     ·rw[yar,bX,di]
      refine eNt (hcl1 _) ?_ ?_ (a:=Xi)
      ·exact Y16
      ·exact Y14
     refine Tq20 ?_
     refine ax (fun hc=>?_) (fun hc=>?_)
     ·have hk1':k1<x.refs.length:=sHc
      obtain⟨x1,hx1⟩:∃ x1,x1=x.refs[k1]:=⟨_,rfl⟩
      have hg1:=cN (f:=bc) (l:=x.refs) (k:=k1) (x:=x1) (by rw[gQq hk1',hx1])
      have e15:IntKind.i64.wrap ((k1:Int)+1)=((k1+1:Nat):Int):=Xe
      obtain⟨es1,hlk1⟩:=dw (g:=pU) hk1' hx1 hT14
      simp only[go_sem,hcw,hcI,swC,aR,iNq,ybb,hg1,bc,ak,hnB,ybb,bT,bU,bS,bK,bV,bO,bR,bP,bQ,bL,bJ,bH,bI,AV.cells,ap,ba,aJ,aK,az,aZ,aL,aU,bc,aP,aQ,aE,au,vc,inL,boL,ak]
      refine⟨Xa,?_⟩
      rw[show pU x1=((b8 x1.table 2).add ((b8 x1.key 1).add ((b8 x1.action 2).add ((b8 x1.param 1).add ((b8 x1.toTable 2).add (b8 x1.toKey 1)))))) from rfl]at es1 hlk1
      rw[← aI,← aI,← aI,← aI,← aI]at hlk1
      rw[← aI,← aI,← aI,← aI,← aI]at es1
      have hm14:=aT hlk1
      have hm13:=aT hm14
      have hm12:=aT hm13
      have hm11:=aT hm12
      have hm10:=aT hm11
      refine Tq12 ?_
      refine dk (.inr rfl) ((hW.next _).push _) hm10 ?_
      rw[hF.p1]
      refine Tq12 ?_
      refine dk (.inl rfl) ((hW.next _).push _) hm11 ?_
      rw[hF.p1]
      refine Tq12 ?_
      refine dk (.inr rfl) ((hW.next _).push _) hm12 ?_
      rw[hF.p1]
      refine Tq12 ?_
      refine dk (.inl rfl) ((hW.next _).push _) hm13 ?_
      rw[hF.p1]
      refine Tq12 ?_
      refine dk (.inr rfl) ((hW.next _).push _) hm14 ?_
      rw[hF.p1]
      refine Tq12 ?_
      refine dk (.inl rfl) ((hW.next _).push _) hlk1 ?_
      rw[hF.p1]
      rw[es1]
      refine Tq69 ?_
      refine⟨k1+1,Xa,Xa,eNt (hcl1 _) ?_ ?_ (a:=Xi)⟩
      ·exact Y18
      ·exact Y14
     ·have hk1':k1=x.refs.length:=sHc
      subst hk1'
      rw[List.take_length]
      rw[← hE14]
      rw[← hTot]
      rcases hR with⟨h1,rfl⟩|⟨h1,h2,rfl⟩|⟨h1,h2,h3,rfl⟩|⟨h1,h2,h3,h4,rfl⟩|⟨h1,h2,h3,h4,rfl⟩
      ·skip
       try simp only[go_sem,hcw,hcI,swC,aR,ak,hnB,ybb,h1,zli]
       exact Y22
      ·skip
       try simp only[go_sem,hcw,hcI,swC,aR,ak,hnB,ybb,h1,h2,zli]
       exact Y22
      ·skip
       try simp only[go_sem,hcw,hcI,swC,aR,ak,hnB,ybb,h1,h2,h3,zli]
       exact Y22
      ·skip
       have d4:decide (((iP x).b.length:Int)>8000)=true:=dtq Xa
       refine Tq44 ?_
       exact Y22
      ·skip
       have d4:decide (((iP x).b.length:Int)>8000)=false:=dfq Xa
       refine Tq44 ?_
       exact Y22
def Th:tSl Tryz.prog 22 5:=kSl
attribute [go_sem] Th
def IQ:tSl Tryz.prog 28 74:=kSl
def Ka:tSl Tryz.prog 29 62:=kSl
def H9:tSl Tryz.prog 31 79:=kSl
def MX:tSl Tryz.prog 25 50:=kSl
def LJ:tSl Tryz.prog 71 102:=kSl
def Hk:tSl Tryz.prog 32 44:=kSl
def Lj:tSl Tryz.prog 72 100:=kSl
def Lb:tSl Tryz.prog 30 58:=kSl
def Mt:tSl Tryz.prog 23 3:=kSl
theorem NH:ti Tryz.prog 74=some ⟨.struct [(0,3,false),(1,9,false),(2,71,false),(3,72,false),(4,9,false)],5,88,.agg [.int .i64 0,.str [],.slice .nil 1 [],.slice .nil 1 [],.str []]⟩:=krf
theorem PX:ti Tryz.prog 62=some ⟨.struct [(0,3,false),(1,9,false),(2,59,false),(3,23,false),(4,3,false),(5,60,false),(6,3,false),(7,9,false)],8,128,.agg [.int .i64 0,.str [],.slice .nil 1 [],.slice .nil 1 [],.int .i64 0,.slice .nil 1 [],.int .i64 0,.str []]⟩:=krf
theorem QU:ti Tryz.prog 79=some ⟨.struct [(0,3,false),(1,9,false),(2,77,false),(3,23,false),(4,3,false),(5,4,false)],6,88,.agg [.int .i64 0,.str [],.slice .nil 1 [],.slice .nil 1 [],.int .i64 0,.bool false]⟩:=krf
theorem O3:ti Tryz.prog 50=some ⟨.struct [(0,3,false),(1,9,false),(2,3,false)],3,32,.agg [.int .i64 0,.str [],.int .i64 0]⟩:=krf
theorem Nj:ti Tryz.prog 102=some ⟨.struct [(0,9,false),(1,3,false)],2,24,.agg [.str [],.int .i64 0]⟩:=krf
theorem Qk:ti Tryz.prog 100=some ⟨.struct [(0,3,false),(1,3,false),(2,98,false)],6,48,.agg [.int .i64 0,.int .i64 0,.int .i64 0,.int .i64 0,.int .u64 0,.int .u64 0]⟩:=krf
theorem Qb:ti Tryz.prog 98=some ⟨.struct [(0,3,false),(1,3,false),(2,94,false)],4,32,.agg [.int .i64 0,.int .i64 0,.int .u64 0,.int .u64 0]⟩:=krf
theorem Nu:ti Tryz.prog 44=some ⟨.struct [(0,3,false),(1,3,false),(2,3,false),(3,3,false),(4,3,false),(5,3,false)],6,48,.agg [.int .i64 0,.int .i64 0,.int .i64 0,.int .i64 0,.int .i64 0,.int .i64 0]⟩:=krf
theorem QA:ti Tryz.prog 58=some ⟨.struct [(0,3,false),(1,3,false)],2,16,.agg [.int .i64 0,.int .i64 0]⟩:=krf
attribute [go_sem] IQ Ka H9 MX LJ Hk Lj Lb Mt NH PX QU O3 Nj Qk Qb Nu QA
theorem bx:∀(X Y:Wz)(f:Nat)(v:Wz),splice (X++Y) (X.length+f) v=X++splice Y f v
 |[],Y,f,v=>Xc
 |x::X,Y,f,v=>by
  have:=bx X Y f v
  rw[yaz,show X.length+1+f=X.length+f+1 by omega]
  show x::splice (X++Y) (X.length+f) v=_
  rw[this];rfl
def cr(X Y:Wz)(f:Nat)(d:AV):(X++Y).getD (X.length+f) d=Y.getD f d:=by
 rw[gEq,gEq,List.getElem?_append_right (Xa)]
 congr 2;omega
def uv{H' H1:AHeap}{id sz n:Nat}{cs L:Wz}(h1:a8 H' id=some cs)(h2:dh sz n cs=L)(h3:H1.get id=none):wk1 H' H1 (.ms id 0 sz n) (.slice .any sz L):=by
 simp only[wk1,h1];exact⟨.inl trivial,trivial,h2.symm,h3⟩
def p7{H:AHeap}{i:Nat}(h:H.nx≤i):H.get i=none:=by unfold AHeap.get;rw[if_neg (by omega)]
def GV{sz n:Nat}{c rest:Wz}(h:c.length=sz)(h1:sz≠1):dh sz (n+1) (c++rest)=.agg c::dh sz n rest:=by
 rw[dh,if_neg h1]
 congr 1
 ·congr 1
  refine List.ext_getElem (by simp[h]) fun j h1 h2=>?_
  simp only[List.getElem_map,List.getElem_range]
  rw[gEq,List.getElem?_append_left h2]
  simp[h2]
 ·rw[← h,List.drop_left]
theorem wc{α:Type}{f:α→AV}{sz:Nat}(hf:∀ x,∃ c,f x=.agg c∧c.length=sz)(h1:sz≠1)(J:Wz):∀ l:List α,dh sz l.length ((l.map f).flatMap AV.cells++J)=l.map f
 |[]=>rfl
 |x::l=>by
  obtain⟨c,hc,hl⟩:=hf x
  rw[yae,List.flatMap_cons,hc,List.append_assoc,yaz]
  show dh sz (l.length+1) (c++_)=_
  rw[GV hl h1,wc hf h1 J l]
theorem Br{α:Type}{f:α→AV}{sz:Nat}(hf:∀ x,(f x).cells.length=sz):∀ l:List α,((l.map f).flatMap AV.cells).length=l.length*sz
 |[]=>Xc
 |x::l=>by rw[yae,List.flatMap_cons,lAq,hf,Br hf l,yaz,Nat.succ_mul];omega
def nJ{α:Type}{f:α→AV}(hf:∀ x,(f x).lt 0)(l:List α):∀ x∈(l.map f).flatMap AV.cells,AV.lt 0 x:=fun x hx=>by
 obtain⟨y,hy,hx⟩:=List.mem_flatMap.1 hx
 obtain⟨m,_,rfl⟩:=List.mem_map.1 hy
 obtain⟨j,hj,rfl⟩:=List.getElem_of_mem hx
 exact AV.lt_cells (hf m) j hj
def jZ{α:Type}{f:α→AV}{l:List α}(h:1≤l.length):(l.map f).isEmpty=false:=by
 cases l with
 |nil=>simp at h
 |cons x y=>rfl
def l8{α:Type}{f:α→AV}{sz:Nat}(hf:∀ x,∃ c,f x=.agg c∧c.length=sz)(h1:sz≠1)(k:Nat)(l A B:List α)(m:α)(h:l=A++m::B) :
 ∃ C0 Z,C0.length=A.length*sz∧(l.map f).flatMap AV.cells++List.replicate k .junk=C0++((f m).cells++Z)∧∀ m',dh sz l.length (C0++((f m').cells++Z))=(A++m'::B).map f:=by
 refine⟨(A.map f).flatMap AV.cells,(B.map f).flatMap AV.cells++List.replicate k .junk,Br (fun x=>by obtain⟨c,e,hl⟩:=hf x;rw[e];exact hl) A,?_,fun m'=>?_⟩
 ·rw[h];simp[List.append_assoc]
 ·have:=wc hf h1 (List.replicate k .junk) (A++m'::B)
  rw[show l.length=(A++m'::B).length by rw[h];simp,← this]
  simp[List.append_assoc]
def oT{α:Type}{l:List α}{i:Nat}(h:i<l.length):∃ A m B,A.length=i∧l=A++m::B :=
 ⟨l.take i,l[i],l.drop (i+1),Xf,by rw[← dcq h,List.take_append_drop]⟩
def bh(cs:Wz)(o:Nat):splice cs o []=cs:=rO cs o
theorem jy:∀{a a' b b':Wz},nB a a'→nB b b'→nB (a++b) (a'++b')
 |[],[],_,_,_,h=>h
 |x::a,y::a',_,_,⟨h1,h2⟩,h=>⟨h1,jy h2 h⟩
 |[],_::_,_,_,h,_=>h.elim
 |_::_,[],_,_,h,_=>h.elim
def ik(l:Wz):nB l l:=of_eq_true wkDL_same
def nw(n:Int):0≤IntKind.u64.wrap n∧IntKind.u64.wrap n<18446744073709551616:=by
 unfold IntKind.wrap
 simp only[IntKind.signed,IntKind.bits]
 constructor
 ·simp;omega
 ·simp;omega
def BA{v:Nat}(h:v<2^128):(lk v).length≤17:=by
 unfold lk
 rw[yaz,nr]
 have:=tg h
 omega
def cb(n w:Int):(b8 n w).b.length≤4:=fm n w
def pq(s:By)(m:Int):(iy s m).b.length≤65537:=CQ s
def qz{v:Nat}(h:ng v):(ko v).b.length≤17:=BA h
def qi(x:Bool):(jf x).b.length≤1:=by simp[jf]
theorem JG{α:Type}{g:α→Enc}{B:Nat}:∀{l:List α},(∀ a∈l,(g a).b.length≤B)→(bX g l).b.length≤l.length*B
 |[],_=>Nat.zero_le _
 |x::l,h=>by
  rw[bX,bm,yaz,Nat.succ_mul]
  have:=h x List.mem_cons_self
  have:=JG (l:=l) fun a ha=>h a (List.mem_cons_of_mem _ ha)
  omega
def dU{α:Type}{g:α→Enc}{m:Int}{n B:Nat}{l:List α}(hl:l.length≤n)(h:∀ a∈l,(g a).b.length≤B):(bn g m l).b.length≤4+n*B:=by
 unfold bn dy
 rw[bm]
 have h1:=JG h
 have h2:=fm (l.length:Int) 2
 have h3:l.length*B≤n*B:=Nat.mul_le_mul_right _ hl
 dsimp only
 omega
structure SmP(N R:Nat)(x:Sch):Prop where
 f:x.fields.length≤N∧∀ a∈x.fields,qA a.name
 h:x.headers.length≤N∧∀ a∈x.headers,qA a.name∧a.fields.length≤R
 s:x.states.length≤N∧∀ a∈x.states,a.cases.length≤R∧∀ c∈a.cases,rW c
 a:x.actions.length≤N∧∀ a∈x.actions,oQ a∧a.params.length≤R∧a.body.length≤R
 t:x.tables.length≤N∧∀ a∈x.tables,qP a∧a.keys.length≤R∧a.actions.length≤R∧a.dargs.length≤R
 g:x.stages.length≤R
 r:x.roles.length≤N∧∀ a∈x.roles,qA a.name∧a.grants.length≤R∧a.actions.length≤R∧∀ q∈a.grants,q.keys.length≤R
 x:x.refs.length≤R
theorem SmP.ok{N R:Nat}{x:Sch}(h:SmP N R x):OkSch x :=
 ⟨h.f.2,fun a ha=>(h.h.2 a ha).1,fun a ha=>(h.s.2 a ha).2,fun a ha=>(h.a.2 a ha).1,fun a ha=>(h.t.2 a ha).1,fun a ha=>(h.r.2 a ha).1⟩
theorem SmP.mono{N R N' R':Nat}{x:Sch}(h:SmP N R x)(hN:N≤N')(hR:R≤R'):SmP N' R' x where
 f:=⟨Nat.le_trans h.f.1 hN,h.f.2⟩
 h:=⟨Nat.le_trans h.h.1 hN,fun a ha=>⟨(h.h.2 a ha).1,Nat.le_trans (h.h.2 a ha).2 hR⟩⟩
 s:=⟨Nat.le_trans h.s.1 hN,fun a ha=>⟨Nat.le_trans (h.s.2 a ha).1 hR,(h.s.2 a ha).2⟩⟩
 a:=⟨Nat.le_trans h.a.1 hN,fun a ha=>⟨(h.a.2 a ha).1,Nat.le_trans (h.a.2 a ha).2.1 hR,Nat.le_trans (h.a.2 a ha).2.2 hR⟩⟩
 t:=⟨Nat.le_trans h.t.1 hN,fun a ha=>⟨(h.t.2 a ha).1,Nat.le_trans (h.t.2 a ha).2.1 hR,Nat.le_trans (h.t.2 a ha).2.2.1 hR,Nat.le_trans (h.t.2 a ha).2.2.2 hR⟩⟩
 g:=Nat.le_trans h.g hR
 r:=⟨Nat.le_trans h.r.1 hN,fun a ha=>⟨(h.r.2 a ha).1,Nat.le_trans (h.r.2 a ha).2.1 hR,Nat.le_trans (h.r.2 a ha).2.2.1 hR,fun q hq=>Nat.le_trans ((h.r.2 a ha).2.2.2 q hq) hR⟩⟩
 x:=Nat.le_trans h.x hR
theorem SmP.len{x:Sch}(h:SmP 50 1100000 x):(iP x).b.length≤dX:=by
 have e1:(bn gy 32 x.fields).b.length≤4+50*65545:=dU h.f.1 fun a _=>by
  unfold gy;rw[bm,bm]
  have:=cb a.id 2;have:=pq a.name 24;have:=cb a.bits 1;omega
 have e2:(bn fT 8 x.headers).b.length≤4+50*(65545+1100000*4):=dU h.h.1 fun a ha=>by
  unfold fT;rw[bm,bm]
  have:=cb a.id 2;have:=pq a.name 24
  have:=dU (g:=jP) (m:=32) (h.h.2 a ha).2 (B:=4) fun n _=>cb n 2
  omega
 have e3:(bn iD 12 x.states).b.length≤4+50*(20+1100000*38):=dU h.s.1 fun a ha=>by
  unfold iD;rw[bm,bm,bm,bm]
  have:=cb a.id 2;have:=cb a.header 2;have:=cb a.select 2;have:=cb a.dflt 2
  have:=dU (g:=mu) (m:=6) (h.s.2 a ha).1 (B:=38) fun c hc=>by
   unfold mu;rw[bm,bm]
   have:=qz ((h.s.2 a ha).2 c hc).1;have:=qz ((h.s.2 a ha).2 c hc).2;have:=cb c.next 2;omega
  omega
 have e4:(bn eO 12 x.actions).b.length≤4+50*(131086+1100000*65541+1100000*33):=dU h.a.1 fun a ha=>by
  unfold eO;rw[bm,bm,bm,bm]
  obtain⟨h1,h2,h3⟩:=h.a.2 a ha
  have:=cb a.id 2;have:=pq a.name 24;have:=pq a.restr 400
  have:=dU (g:=jq) (m:=4) h2 (B:=65541) fun c hc=>by
   unfold jq;rw[bm]
   have:=pq c.name 24;have:=cb c.bits 1;omega
  have:=dU (g:=mM) (m:=12) h3 (B:=33) fun c hc=>by
   unfold mM;rw[bm,bm,bm,bm]
   have:=cb c.op 1;have:=cb c.dst 2;have:=cb c.kind 1;have:=cb c.n 2;have:=qz (h1.2.2.1 c hc);omega
  omega
 have e5:(bn gx 8 x.tables).b.length≤4+50*(131098+1100000*65545+1100000*4+1100000*17):=dU h.t.1 fun a ha=>by
  unfold gx;simp only[bm]
  obtain⟨h1,h2,h3,h4⟩:=h.t.2 a ha
  have:=cb a.id 2;have:=pq a.name 24;have:=pq a.restr 400;have:=cb a.dflt 2;have:=cb a.size 2
  have:=dU (g:=pH) (m:=4) h2 (B:=65545) fun c hc=>by
   unfold pH;rw[bm,bm]
   have:=pq c.name 24;have:=cb c.field 2;have:=cb c.kind 1;omega
  have:=dU (g:=jP) (m:=12) h3 (B:=4) fun n _=>cb n 2
  have:=dU (g:=ko) (m:=4) h4 (B:=17) fun v hv=>qz (h1.2.2.1 v hv)
  omega
 have e6:(bn hZ 12 x.stages).b.length≤4+1100000*8:=dU h.g fun a _=>by
  unfold hZ;rw[bm]
  have:=cb a.table 2;have:=cb a.header 2;omega
 have e7:(bn ky 6 x.roles).b.length≤4+50*(65560+1100000*(10+1100000*1)+1100000*4):=dU h.r.1 fun a ha=>by
  unfold ky;simp only[bm]
  obtain⟨h1,h2,h3,h4⟩:=h.r.2 a ha
  have:=cb a.id 2;have:=pq a.name 24;have:=cb a.quota 2;have:=qi a.audit
  have:=dU (g:=jo) (m:=8) h2 (B:=10+1100000*1) fun c hc=>by
   unfold jo;simp only[bm]
   have:=cb c.table 2;have:=qi c.read;have:=qi c.write
   have:=dU (g:=jf) (m:=4) (h4 c hc) (B:=1) fun y _=>qi y
   omega
  have:=dU (g:=jP) (m:=12) h3 (B:=4) fun n _=>cb n 2
  omega
 have e8:(bn pU 8 x.refs).b.length≤4+1100000*24:=dU h.x fun a _=>by
  unfold pU;simp only[bm]
  exact Y135
 unfold iP fH
 simp only[bm]
 rw[bF]
 have:=cb x.maxBatch 2;have:=cb x.budget 2
 omega
def Cm:tSl Tryz.prog 39 34:=kSl
attribute [go_sem] Cm
def fY{s:By}(h:s.length≤1000):qA s:=by unfold qA;rw[bF];omega
def kr{v:Nat}(h:v≤1000):ng v:=by unfold ng;omega
def xC(b:By)(v:Nat):(bE b v).1.length≤40∧∀ a∈(bE b v).1,a.cases.length≤1000∧∀ c∈a.cases,rW c:=by
 have h2:=jO (b:=b) (v:=v+2) (n:=2) Xb
 have h6:=jO (b:=b) (v:=v+6) (n:=3) Xb
 have h4:=jO (b:=b) (v:=v+4) (n:=3) Xb
 unfold bE
 (repeat' split)<;>refine⟨Xc,fun a ha=>?_⟩<;>simp only[List.mem_cons,List.not_mem_nil,or_false]at ha<;>rcases ha with rfl|rfl|rfl<;>refine⟨Xc,fun c hc=>?_⟩ <;>
   simp only[List.mem_cons,List.not_mem_nil,or_false]at hc <;>
   first
    |exact hc.elim
    |(subst hc;exact⟨kr Xd,kr Xd⟩)
    |(rcases hc with rfl|rfl<;>exact⟨kr Xd,kr Xd⟩)
    |(rcases hc with rfl|rfl|rfl<;>exact⟨kr Xd,kr Xd⟩)
def w6(b:By)(v:Nat):(dZ b v).length=6∧∀ a∈dZ b v,oQ a∧a.params.length≤1000∧a.body.length≤1000:=by
 have h1:=jO (b:=b) (v:=v+1) (n:=256) Xb
 refine⟨rfl,fun a ha=>?_⟩
 simp only[dZ,List.mem_cons,List.not_mem_nil,or_false]at ha
 rcases ha with rfl|rfl|rfl|rfl|rfl|rfl<;>refine⟨⟨fY Xc,fun p hp=>?_,fun p hp=>?_,fY (by dsimp only;(try split)<;>simp)⟩,Xc,Xc⟩<;>simp only[List.mem_cons,List.not_mem_nil,or_false]at hp <;>
  first
   |exact hp.elim
   |(subst hp;first|exact fY (Xc)|exact kr Xd)
   |(rcases hp with rfl|rfl<;>first|exact fY (Xc)|exact kr Xd)
   |(rcases hp with rfl|rfl|rfl<;>first|exact fY (Xc)|exact kr Xd)
def pr{L:List (By)}(h:∀ s∈L,s.length≤1000)(i:Nat):qA (L.getD i []):=by
 rw[gEq]
 cases hi:L[i]? with
 |none=>exact fY Xc
 |some s=>exact fY (h s (List.mem_of_getElem? hi))
def xj(b:By)(v:Nat):(cD b v).length=4∧∀ a∈cD b v,qP a∧a.keys.length≤1000∧a.actions.length≤1000∧a.dargs.length≤1000:=by
 refine⟨rfl,fun a ha=>?_⟩
 simp only[cD,List.mem_cons,List.not_mem_nil,or_false]at ha
 rcases ha with rfl|rfl|rfl|rfl
 ·refine⟨⟨fY (by simp[iJ]),fun k hk=>?_,by simp[iJ],pr Xb _⟩,by simp[iJ],by simp[iJ],by simp[iJ]⟩
  simp only[iJ,List.mem_cons,List.not_mem_nil,or_false]at hk
  subst hk;exact fY Xc
 ·refine⟨⟨fY (by simp[hG]),fun k hk=>?_,by simp[hG],pr Xb _⟩,by simp only[hG];split<;>simp,by simp[hG],by simp[hG]⟩
  simp only[hG]at hk
  split at hk<;>simp only[yal,yak,yaj,List.mem_cons,List.not_mem_nil,or_false]at hk
  ·rcases hk with rfl|rfl<;>exact fY Xc
  ·subst hk;exact fY Xc
 ·refine⟨⟨fY (by simp[fg]),fun k hk=>?_,by simp[fg],pr Xb _⟩,by simp only[fg];split<;>simp,by simp[fg],by simp[fg]⟩
  simp only[fg]at hk
  split at hk<;>simp only[yal,yak,yaj,List.mem_cons,List.not_mem_nil,or_false]at hk
  ·rcases hk with rfl|rfl|rfl<;>exact fY Xc
  ·rcases hk with rfl|rfl<;>exact fY Xc
 ·refine⟨⟨fY (by simp[fe]),fun k hk=>?_,fun x hx=>?_,pr Xb _⟩,by simp only[fe];split<;>simp,by simp[fe],by simp[fe]⟩
  ·simp only[fe]at hk
   split at hk<;>simp only[yal,yak,yaj,List.mem_cons,List.not_mem_nil,or_false]at hk
   ·rcases hk with rfl|rfl|rfl<;>exact fY Xc
   ·subst hk;exact fY Xc
  ·simp only[fe,List.mem_singleton]at hx
   subst hx;exact kr Xa
def GrOk(n:Nat)(l:List SGrant):Prop:=l.length≤n∧∀ q∈l,q.keys.length≤1000
theorem GrOk.nil{n:Nat}:GrOk n []:=⟨Nat.zero_le _,fun q hq=>by cases hq⟩
theorem GrOk.cons{n:Nat}{l:List SGrant}{q:SGrant}(h:GrOk n l)(hq:q.keys.length≤1000):GrOk (n+1) (q::l) :=
 ⟨Nat.succ_le_succ h.1,fun x hx=>(List.mem_cons.1 hx).elim (fun e=>e▸hq) (h.2 x)⟩
theorem GrOk.up{n:Nat}{l:List SGrant}(h:GrOk n l):GrOk (n+1) l:=⟨Nat.le_succ_of_le h.1,h.2⟩
theorem kp(b:By):∀(ts:List STable)(v:Nat),(∀ t∈ts,t.keys.length≤1000)→GrOk ts.length (eJ b ts v).1.1∧GrOk ts.length (eJ b ts v).1.2.1∧GrOk ts.length (eJ b ts v).1.2.2
 |[],v,_=>⟨.nil,.nil,.nil⟩
 |t::ts,v,h=>by
  have ht:=h t List.mem_cons_self
  have hp:∀ v,(kT b v t.keys.length).length≤1000:=fun v=>by simp[kT];exact ht
  have hr:(List.replicate t.keys.length true).length≤1000:=by simp;exact ht
  simp only[eJ]
  rw[yaz]
  split<;>split
  ·obtain⟨i1,i2,i3⟩:=kp b ts (v+t.keys.length+3+3) fun x hx=>h x (List.mem_cons_of_mem _ hx)
   exact⟨i1.cons hr,i2.cons (hp _),i3.cons hr⟩
  ·obtain⟨i1,i2,i3⟩:=kp b ts (v+t.keys.length+3+1) fun x hx=>h x (List.mem_cons_of_mem _ hx)
   exact⟨i1.cons hr,i2.cons (hp _),i3.up⟩
  ·obtain⟨i1,i2,i3⟩:=kp b ts (v+t.keys.length+1+3) fun x hx=>h x (List.mem_cons_of_mem _ hx)
   exact⟨i1.cons hr,i2.up,i3.cons hr⟩
  ·obtain⟨i1,i2,i3⟩:=kp b ts (v+t.keys.length+1+1) fun x hx=>h x (List.mem_cons_of_mem _ hx)
   exact⟨i1.cons hr,i2.up,i3.up⟩
def Ah(b:By)(v:Nat):SmP 40 1000 (d7 b v).1:=by
 unfold d7
 dsimp only
 obtain⟨t1,t2⟩:=xj b (cp (bE b (cp v 2)).2 4)
 obtain⟨a1,a2⟩:=w6 b (bE b (cp v 2)).2
 refine⟨⟨(Xb:gFields.length≤40),fun a ha=>?_⟩,⟨(Xb:gHeaders.length≤40),fun a ha=>?_⟩,xC b _,⟨Xd,a2⟩,⟨Xd,t2⟩,?_,⟨by simp[jV],fun a ha=>?_⟩,?_⟩
 ·simp only[gFields,List.mem_cons,List.not_mem_nil,or_false]at ha
  rcases ha with rfl|rfl|rfl|rfl|rfl|rfl|rfl|rfl|rfl<;>exact fY Xc
 ·simp only[gHeaders,List.mem_cons,List.not_mem_nil,or_false]at ha
  rcases ha with rfl|rfl|rfl<;>exact⟨fY Xc,Xc⟩
 ·split<;>simp
 ·obtain⟨g1,g2,g3⟩:=kp b (cD b (cp (bE b (cp v 2)).2 4)) (cp (bE b (cp v 2)).2 16+4) fun t ht=>(t2 t ht).2.1
  rw[t1]at g1 g2 g3
  simp only[jV,List.mem_cons,List.not_mem_nil,or_false]at ha
  rcases ha with rfl|rfl|rfl
  ·exact⟨fY Xc,by have:=g1.1;dsimp only;omega,Xc,g1.2⟩
  ·exact⟨fY Xc,by have:=g2.1;dsimp only;omega,Xc,g2.2⟩
  ·exact⟨fY Xc,by have:=g3.1;dsimp only;omega,Xc,g3.2⟩
 ·(repeat' split)<;>simp
def yN{b:By}:zod b 0=il b (cp 0 0):=by
 unfold zod il cp
 simp
end Go.AL
