/- Lemmas of the proof; no condition. -/
import Derived.Test.YthnlhjalhflgfaaGreatW03j
set_option linter.all false
set_option maxRecDepth 10000
set_option maxHeartbeats 32000000
open List renaming length_cons → yaz, length_nil → yba, take_succ_cons → yaq, take_zero → yar, drop_succ_cons → yao, drop_zero → yap, length_map → ybb, cons_append → yal, nil_append → yak, append_nil → yaj
open Go Go.AL Go.Proofs
namespace Go.AL
theorem Eo:ti Tryz.prog 34=some ⟨.struct [(0,25,false),(1,26,false),(2,27,false),(3,28,false),(4,29,false),(5,30,false),(6,31,false),(7,32,false),(8,3,false),(9,3,false)],10,208,.agg [.slice .nil 1 [],.slice .nil 1 [],.slice .nil 1 [],.slice .nil 1 [],.slice .nil 1 [],.slice .nil 1 [],.slice .nil 1 [],.slice .nil 1 [],.int .i64 0,.int .i64 0]⟩:=krf
attribute [go_sem] Eo
theorem ns {n sz:Nat}:AV.lt n (.slice .any sz []):=xG fun x hx=>absurd hx (by simp)
def s5 (x:Sch):List UInt8 × Int :=
 if (jf x).l=true then ([],3) else if (jf x).f=true then ([],2) else if (jf x).a=true then ([],4) else if 8000<(jf x).b.length then ([],3) else ((jf x).b,0)
def jX:PCt
 |[.agg l],_,K=>∃ x:Sch,(l=aS x∧OkSch x∧(jf x).b.length≤dB)∧K (.tup [.slice .any 1 (bys (s5 x).1),.int .i64 (s5 x).2])
 |_,_,_=>False
theorem SOn.leq {H HB:AHeap} {id q:Nat} {s0 s:Enc} (hW:SOn HB id q s0) (hle:H.Le HB) (h1:H.nx≤id) (h2:H.nx≤q):H.Le (swH HB id q s):=by
 refine ⟨hle.nx,fun j x hj=>?_⟩
 have hj2:=glq hj
 unfold swH
 rw [AHeap.get_set_ne _ _ (by omega),AHeap.get_set_ne _ _ (by omega)]
 exact hle.get _ _ hj
theorem qN {x:Sch} {RE:List UInt8 × Int} (h:s5 x=RE) :
 ((jf x).l=true∧RE=([],3))∨((jf x).l=false∧(jf x).f=true∧RE=([],2))∨((jf x).l=false∧(jf x).f=false∧(jf x).a=true∧RE=([],4)) ∨
 ((jf x).l=false∧(jf x).f=false∧(jf x).a=false∧8000<(jf x).b.length∧RE=([],3))∨((jf x).l=false∧(jf x).f=false∧(jf x).a=false∧(jf x).b.length≤8000∧RE=((jf x).b,0)):=by
 subst h
 unfold s5
 cases (jf x).l<;>cases (jf x).f<;>cases (jf x).a<;>simp
 omega
theorem CO (x:Sch):enc0.add (jf x)=(((((((((enc0.add (cf x.maxBatch 2)).add (cf x.budget 2)).add (bp gG 32 x.fields)).add (bp fX 8 x.headers)).add (bp iW 12 x.states)).add (bp eM 12 x.actions)).add (bp gH 8 x.tables)).add (bp iy 12 x.stages)).add (bp ky 6 x.roles)).add (bp qG 8 x.refs):=by
 unfold jf fI
 simp only [aG]
def Bq:=jX
theorem Nr:EPp 30 Bq:=by
 unfold Bq
 refine Ype fun _ H K h=>?_
 unfold jX at h
 split at h<;>try exact h.elim
 rename_i l
 obtain ⟨x,⟨rfl,ha,hl⟩,hK⟩:=h
 refine ⟨_,hK,?_⟩
 clear hK
 refine Yfw aC (tCq jc (tCq K7 (tCq ET (tCq Jz (tCq Ez (tCq Ib (tCq El (tCq KN (tCq EY (tCq Gl (tCq FD (tCq KX (tCq Ga (tCq Jv (tCq EV (tCq Ja (tCq EJ tNq))))))))))))))))) Tryz.func30 [.tmp 2,.tmp 3] (nrq _) (T:=aA [(4,[[],[],[],[0,2]]),(5,[[],[],[],[0,2]]),(6,[[],[],[],[0,2]]),(7,[[],[],[],[0,2]]),(8,[[],[],[],[0,2]]),(9,[[],[],[],[0,2]]),(10,[[],[],[],[0,2]]),(11,[[],[],[],[0,2]]),(2,[[1]])]) (h:=fun hcl=>?_)
 simp only [go_sem,aS,eJ]
 refine xB 4 0 1 (cs:=[AV.slice .nil 1 [],.bool false,.bool false,.bool false]) rfl (by simp only [go_sem]) rfl ?_
 obtain ⟨HB,hHB⟩:∃ HB,HB=(((H.push (.cells (aS x))).push (.buf 1 0)).push (.cells (swC (H.nx+1+1+1) [] false false false))).push (.buf 1 0):=⟨_,rfl⟩
 have hnB:HB.nx=H.nx+1+1+1+1:=by rw [hHB];rfl
 have hW:SOn HB (H.nx+1+1) (H.nx+1+1+1) enc0:=by
  exact Y151
 have hcB:HB.Closed:=by
  exact Y56
 have hcr:aW HB H.nx=some (aS x):=by rw [hHB];simp only [go_sem]
 have hle:H.Le HB:=by rw [hHB];repeat first|exact .refl _|refine .push ?_ _
 have hcw:∀ s,aW (swH HB (H.nx+1+1) (H.nx+1+1+1) s) H.nx=some (aS x):=fun s=>by rw [wS (by omega) (by omega),hcr]
 have hcI:∀ s,aW (swH HB (H.nx+1+1) (H.nx+1+1+1) s) (H.nx+1+1)=some (swC (H.nx+1+1+1) s.b s.l s.f s.a):=fun s=>aM (hW.next s).o
 have hlW:∀ s,H.Le (swH HB (H.nx+1+1) (H.nx+1+1+1) s):=fun s=>hW.leq hle (by omega) (by omega)
 have hcl1:=fun t=>hW.closed (t:=t) hcB
 have hF:=hW.facts
 refine Tq58 ?_
 rw [show (((H.push (.cells [.slice .any 3 (x.fields.map aH),.slice .any 3 (x.headers.map az),.slice .any 5 (x.states.map aB),.slice .any 5 (x.actions.map ap),.slice .any 8 (x.tables.map ax),.slice .any 2 (x.stages.map aO),.slice .any 6 (x.roles.map aN),.slice .any 6 (x.refs.map bh),.int .i64 x.maxBatch,.int .i64 x.budget])).push (.buf 1 0)).push (.cells [.slice (.own (H.nx+1+1+1)) 1 [],.bool false,.bool false,.bool false])).push (.buf 1 0)=HB from hHB.symm]
 clear hHB
 obtain ⟨RE,hRE⟩:∃ RE,s5 x=RE:=⟨_,rfl⟩
 have hR:=qN hRE
 rw [hRE]
 have hTot:=CO x
 rw [wa] at hTot
 rw [hTot] at hl
 have hl10:=hl
 have hl9:=aQ hl10
 have hl8:=aQ hl9
 have hl7:=aQ hl8
 have hl6:=aQ hl7
 have hl5:=aQ hl6
 have hl4:=aQ hl5
 have hl3:=aQ hl4
 have hl2:=aQ hl3
 have hl1:=aQ hl2
 try simp only [go_sem,hcw,hcI,swC,aS,ak,hnB,ybb,hcr,j7,j2,j8,jZ,j3,j5,j0,j6]
 refine cY (.inr rfl) hW hl1 ?_
 refine Tq17 ?_
 refine cY (.inr rfl) (hW.next _) hl2 ?_
 rw [hF.pp]
 refine Tq17 ?_
 refine kV (c:=aH) (ha.f) (hW.next _) hl3 ?_
 rw [hF.pp]
 refine Tq17 ?_
 refine kV (c:=az) (ha.h) (hW.next _) hl4 ?_
 rw [hF.pp]
 refine Tq17 ?_
 refine kV (c:=aB) (ha.s) (hW.next _) hl5 ?_
 rw [hF.pp]
 refine Tq17 ?_
 refine kV (c:=ap) (ha.a) (hW.next _) hl6 ?_
 rw [hF.pp]
 refine Tq17 ?_
 refine kV (c:=ax) (ha.t) (hW.next _) hl7 ?_
 rw [hF.pp]
 refine Tq17 ?_
 refine kV (c:=aO) (fun _ _=>trivial) (hW.next _) hl8 ?_
 rw [hF.pp]
 refine Tq17 ?_
 refine kV (c:=aN) (ha.r) (hW.next _) hl9 ?_
 rw [hF.pp]
 refine Tq17 ?_
 refine kV (c:=bh) (fun _ _=>trivial) (hW.next _) hl10 ?_
 rw [hF.pp]
 rw [← hTot]
 rcases hR with ⟨h1,rfl⟩|⟨h1,h2,rfl⟩|⟨h1,h2,h3,rfl⟩|⟨h1,h2,h3,h4,rfl⟩|⟨h1,h2,h3,h4,rfl⟩
 ·skip
  try simp only [go_sem,hcw,hcI,swC,aS,ak,hnB,ybb,h1,zlk]
  exact Y22
 ·skip
  try simp only [go_sem,hcw,hcI,swC,aS,ak,hnB,ybb,h1,h2,zlk]
  exact Y22
 ·skip
  try simp only [go_sem,hcw,hcI,swC,aS,ak,hnB,ybb,h1,h2,h3,zlk]
  exact Y22
 ·skip
  have d4:decide (((jf x).b.length:Int) > 8000)=true:=dtq (by omega)
  refine Tq33 ?_
  exact Y22
 ·skip
  have d4:decide (((jf x).b.length:Int) > 8000)=false:=dfq (by omega)
  refine Tq33 ?_
  exact Y22
def Bg:=jX
theorem My:EPp 39 Bg:=by
 unfold Bg
 refine Ype fun _ H K h=>?_
 unfold jX at h
 split at h<;>try exact h.elim
 rename_i l
 obtain ⟨x,⟨rfl,ha,hl⟩,hK⟩:=h
 refine ⟨_,hK,?_⟩
 clear hK
 refine Yfw aC (tCq OT (tCq pZ (tCq qg (tCq Mo (tCq Mt (tCq ND tNq)))))) Tryz.func39 [.tmp 2,.tmp 3] (nrq _) (T:=aA [(2,[[1]])]) (h:=fun hcl=>?_)
 simp only [go_sem,aS,eJ]
 refine xB 4 0 1 (cs:=[AV.slice .nil 1 [],.bool false,.bool false,.bool false]) rfl (by simp only [go_sem]) rfl ?_
 obtain ⟨HB,hHB⟩:∃ HB,HB=(((H.push (.cells (aS x))).push (.buf 1 0)).push (.cells (swC (H.nx+1+1+1) [] false false false))).push (.buf 1 0):=⟨_,rfl⟩
 have hnB:HB.nx=H.nx+1+1+1+1:=by rw [hHB];rfl
 have hW:SOn HB (H.nx+1+1) (H.nx+1+1+1) enc0:=by
  exact Y151
 have hcB:HB.Closed:=by
  exact Y56
 have hcr:aW HB H.nx=some (aS x):=by rw [hHB];simp only [go_sem]
 have hle:H.Le HB:=by rw [hHB];repeat first|exact .refl _|refine .push ?_ _
 have hcw:∀ s,aW (swH HB (H.nx+1+1) (H.nx+1+1+1) s) H.nx=some (aS x):=fun s=>by rw [wS (by omega) (by omega),hcr]
 have hcI:∀ s,aW (swH HB (H.nx+1+1) (H.nx+1+1+1) s) (H.nx+1+1)=some (swC (H.nx+1+1+1) s.b s.l s.f s.a):=fun s=>aM (hW.next s).o
 have hlW:∀ s,H.Le (swH HB (H.nx+1+1) (H.nx+1+1+1) s):=fun s=>hW.leq hle (by omega) (by omega)
 have hcl1:=fun t=>hW.closed (t:=t) hcB
 have hF:=hW.facts
 refine Tq58 ?_
 rw [show (((H.push (.cells [.slice .any 3 (x.fields.map aH),.slice .any 3 (x.headers.map az),.slice .any 5 (x.states.map aB),.slice .any 5 (x.actions.map ap),.slice .any 8 (x.tables.map ax),.slice .any 2 (x.stages.map aO),.slice .any 6 (x.roles.map aN),.slice .any 6 (x.refs.map bh),.int .i64 x.maxBatch,.int .i64 x.budget])).push (.buf 1 0)).push (.cells [.slice (.own (H.nx+1+1+1)) 1 [],.bool false,.bool false,.bool false])).push (.buf 1 0)=HB from hHB.symm]
 clear hHB
 obtain ⟨RE,hRE⟩:∃ RE,s5 x=RE:=⟨_,rfl⟩
 have hR:=qN hRE
 rw [hRE]
 have hTot:=CO x
 rw [wa] at hTot
 have hPk:((((enc0.add (cf x.maxBatch 2)).add (cf x.budget 2)).add (bp gG 32 x.fields)).add (bp fX 8 x.headers)).add (bp iW 12 x.states)=((enc0.add (cf x.maxBatch 2)).add (cf x.budget 2)).add (fI x):=by
  unfold fI
  simp only [aG]
 rw [hPk] at hTot
 rw [hTot] at hl
 have hl8:=hl
 have hl7:=aQ hl8
 have hl6:=aQ hl7
 have hl5:=aQ hl6
 have hl4:=aQ hl5
 have hl3:=aQ hl4
 have hl2:=aQ hl3
 have hl1:=aQ hl2
 try simp only [hcr,go_sem,hcw,hcI,swC,aS,ak,hnB,ybb,bY,bV,bZ,bQ,bT,b5,bX,bW,bU,bR,bN,bP,bO,AV.cells,ap,aX,aH,aJ,az,aY,aK,aT,bh,aN,aO,aB,ax,vc,inL,boL,ak]
 refine cY (.inr rfl) hW hl1 ?_
 refine Tq1 ?_
 refine cY (.inr rfl) (hW.next _) hl2 ?_
 rw [hF.pp]
 refine Tq1 ?_
 refine oQ (c:=eJ) (ok:=OkSch) (g:=fI) ha (hW.next _) hl3 ?_
 rw [hF.pp]
 have hE10:((((enc0.add (cf x.maxBatch 2)).add (cf x.budget 2)).add (fI x))).add (bp eM 12 x.actions)=(((((enc0.add (cf x.maxBatch 2)).add (cf x.budget 2)).add (fI x))).add (dc x.actions.length 12)).add (b7 eM x.actions):=gZ
 have hT10:=hl4
 rw [hE10] at hT10
 have hN10:=gM vL hT10
 refine Tq1 ?_
 refine lZ (hW.next _) (aQ hT10) ?_
 rw [hF.pp]
 refine Tq1 ?_
 refine aD (A:=Nat) (fun k=>[(1,.ptr H.nx 0),(4,.ptr (H.nx+1+1) 0),(34,.slice .any 5 (x.actions.map (ap))),(35,.int .i64 (x.actions.length:Int)),(36,.int .i64 (k:Int))]) (fun k=>swH HB (H.nx+1+1) (H.nx+1+1+1) ((((((enc0.add (cf x.maxBatch 2)).add (cf x.budget 2)).add (fI x))).add (dc x.actions.length 12)).add (b7 eM (x.actions.take k)))) (fun k=>k≤x.actions.length) (fun k=>x.actions.length - k) 0 (by omega) ?_ fun k1 hk1=>?_
 ·rw [yar,b7,cW]
  refine eNt (hcl1 _) ?_ ?_ (a:=by simp only [zkq,zkv,zle,ak];omega)
  ·exact Y16
  ·exact Y14
 refine Tq15 ?_
 refine ay (fun hc=>?_) (fun hc=>?_)
 ·have hk1':k1<x.actions.length:=sHc
  obtain ⟨x1,hx1⟩:∃ x1,x1=x.actions[k1]:=⟨_,rfl⟩
  have hg1:=cK (f:=ap) (l:=x.actions) (k:=k1) (x:=x1) (by rw [gQq hk1',hx1])
  have e15:IntKind.i64.wrap ((k1:Int)+1)=((k1+1:Nat):Int):=by rw [wrap_i64]<;>omega
  have ho1:=(ha.a) x1 (by rw [hx1];exact gMq hk1')
  obtain ⟨es1,hlk1⟩:=dd (g:=eM) hk1' hx1 hT10
  simp only [go_sem,hcw,hcI,swC,aS,iNq,ybb,hg1,ap,ak,hnB,ybb,bY,bV,bZ,bQ,bT,b5,bX,bW,bU,bR,bN,bP,bO,AV.cells,ap,aX,aH,aJ,az,aY,aK,aT,bh,aN,aO,aB,ax,vc,inL,boL,ak]
  refine ⟨by omega,?_⟩
  skip
  refine oQ (c:=ap) (ho1) ((hW.next _).push _) hlk1 ?_
  rw [hF.p1]
  rw [es1]
  refine Tq65 ?_
  refine ⟨k1+1,by omega,by omega,eNt (hcl1 _) ?_ ?_ (a:=by simp only [zkq,zkv,zle,ak];omega)⟩
  ·exact Y18
  ·exact Y14
 ·have hk1':k1=x.actions.length:=sHc
  subst hk1'
  rw [List.take_length]
  rw [← hE10]
  have hE11:((((((enc0.add (cf x.maxBatch 2)).add (cf x.budget 2)).add (fI x))).add (bp eM 12 x.actions))).add (bp gH 8 x.tables)=(((((((enc0.add (cf x.maxBatch 2)).add (cf x.budget 2)).add (fI x))).add (bp eM 12 x.actions))).add (dc x.tables.length 8)).add (b7 gH x.tables):=gZ
  have hT11:=hl5
  rw [hE11] at hT11
  have hN11:=gM wZ hT11
  refine Tq1 ?_
  refine lZ (hW.next _) (aQ hT11) ?_
  rw [hF.pp]
  refine Tq1 ?_
  refine aD (A:=Nat) (fun k=>[(1,.ptr H.nx 0),(4,.ptr (H.nx+1+1) 0),(50,.slice .any 8 (x.tables.map (ax))),(51,.int .i64 (x.tables.length:Int)),(52,.int .i64 (k:Int))]) (fun k=>swH HB (H.nx+1+1) (H.nx+1+1+1) ((((((((enc0.add (cf x.maxBatch 2)).add (cf x.budget 2)).add (fI x))).add (bp eM 12 x.actions))).add (dc x.tables.length 8)).add (b7 gH (x.tables.take k)))) (fun k=>k≤x.tables.length) (fun k=>x.tables.length - k) 0 (by omega) ?_ fun k1 hk1=>?_
  ·rw [yar,b7,cW]
   refine eNt (hcl1 _) ?_ ?_ (a:=by simp only [zkq,zkv,zle,ak];omega)
   ·exact Y16
   ·exact Y14
  refine Tq15 ?_
  refine ay (fun hc=>?_) (fun hc=>?_)
  ·have hk1':k1<x.tables.length:=sHc
   obtain ⟨x1,hx1⟩:∃ x1,x1=x.tables[k1]:=⟨_,rfl⟩
   have hg1:=cK (f:=ax) (l:=x.tables) (k:=k1) (x:=x1) (by rw [gQq hk1',hx1])
   have e15:IntKind.i64.wrap ((k1:Int)+1)=((k1+1:Nat):Int):=by rw [wrap_i64]<;>omega
   have ho1:=(ha.t) x1 (by rw [hx1];exact gMq hk1')
   obtain ⟨es1,hlk1⟩:=dd (g:=gH) hk1' hx1 hT11
   simp only [go_sem,hcw,hcI,swC,aS,iNq,ybb,hg1,ax,ak,hnB,ybb,bY,bV,bZ,bQ,bT,b5,bX,bW,bU,bR,bN,bP,bO,AV.cells,ap,aX,aH,aJ,az,aY,aK,aT,bh,aN,aO,aB,ax,vc,inL,boL,ak]
   refine ⟨by omega,?_⟩
   skip
   refine oQ (c:=ax) (ho1) ((hW.next _).push _) hlk1 ?_
   rw [hF.p1]
   rw [es1]
   refine Tq65 ?_
   refine ⟨k1+1,by omega,by omega,eNt (hcl1 _) ?_ ?_ (a:=by simp only [zkq,zkv,zle,ak];omega)⟩
   ·exact Y18
   ·exact Y14
  ·have hk1':k1=x.tables.length:=sHc
   subst hk1'
   rw [List.take_length]
   rw [← hE11]
   have hE12:((((((((enc0.add (cf x.maxBatch 2)).add (cf x.budget 2)).add (fI x))).add (bp eM 12 x.actions))).add (bp gH 8 x.tables))).add (bp iy 12 x.stages)=(((((((((enc0.add (cf x.maxBatch 2)).add (cf x.budget 2)).add (fI x))).add (bp eM 12 x.actions))).add (bp gH 8 x.tables))).add (dc x.stages.length 12)).add (b7 iy x.stages):=gZ
   have hT12:=hl6
   rw [hE12] at hT12
   have hN12:=gM xe hT12
   refine Tq1 ?_
   refine lZ (hW.next _) (aQ hT12) ?_
   rw [hF.pp]
   refine Tq1 ?_
   refine aD (A:=Nat) (fun k=>[(1,.ptr H.nx 0),(4,.ptr (H.nx+1+1) 0),(66,.slice .any 2 (x.stages.map (aO))),(67,.int .i64 (x.stages.length:Int)),(68,.int .i64 (k:Int))]) (fun k=>swH HB (H.nx+1+1) (H.nx+1+1+1) ((((((((((enc0.add (cf x.maxBatch 2)).add (cf x.budget 2)).add (fI x))).add (bp eM 12 x.actions))).add (bp gH 8 x.tables))).add (dc x.stages.length 12)).add (b7 iy (x.stages.take k)))) (fun k=>k≤x.stages.length) (fun k=>x.stages.length - k) 0 (by omega) ?_ fun k1 hk1=>?_
   ·rw [yar,b7,cW]
    refine eNt (hcl1 _) ?_ ?_ (a:=by simp only [zkq,zkv,zle,ak];omega)
    ·exact Y16
    ·exact Y14
   refine Tq15 ?_
   refine ay (fun hc=>?_) (fun hc=>?_)
   ·have hk1':k1<x.stages.length:=sHc
    obtain ⟨x1,hx1⟩:∃ x1,x1=x.stages[k1]:=⟨_,rfl⟩
    have hg1:=cK (f:=aO) (l:=x.stages) (k:=k1) (x:=x1) (by rw [gQq hk1',hx1])
    have e15:IntKind.i64.wrap ((k1:Int)+1)=((k1+1:Nat):Int):=by rw [wrap_i64]<;>omega
    obtain ⟨es1,hlk1⟩:=dd (g:=iy) hk1' hx1 hT12
    simp only [go_sem,hcw,hcI,swC,aS,iNq,ybb,hg1,aO,ak,hnB,ybb,bY,bV,bZ,bQ,bT,b5,bX,bW,bU,bR,bN,bP,bO,AV.cells,ap,aX,aH,aJ,az,aY,aK,aT,bh,aN,aO,aB,ax,vc,inL,boL,ak]
    refine ⟨by omega,?_⟩
    rw [show iy x1=((cf x1.table 2).add (cf x1.header 2)) from rfl] at es1 hlk1
    rw [← aG] at hlk1
    rw [← aG] at es1
    have hm10:=aQ hlk1
    refine Tq32 ?_
    refine cY (.inr rfl) ((hW.next _).push _) hm10 ?_
    rw [hF.p1]
    refine Tq32 ?_
    refine cY (.inr rfl) ((hW.next _).push _) hlk1 ?_
    rw [hF.p1]
    rw [es1]
    refine Tq65 ?_
    refine ⟨k1+1,by omega,by omega,eNt (hcl1 _) ?_ ?_ (a:=by simp only [zkq,zkv,zle,ak];omega)⟩
    ·exact Y18
    ·exact Y14
   ·have hk1':k1=x.stages.length:=sHc
    subst hk1'
    rw [List.take_length]
    rw [← hE12]
    have hE13:((((((((((enc0.add (cf x.maxBatch 2)).add (cf x.budget 2)).add (fI x))).add (bp eM 12 x.actions))).add (bp gH 8 x.tables))).add (bp iy 12 x.stages))).add (bp ky 6 x.roles)=(((((((((((enc0.add (cf x.maxBatch 2)).add (cf x.budget 2)).add (fI x))).add (bp eM 12 x.actions))).add (bp gH 8 x.tables))).add (bp iy 12 x.stages))).add (dc x.roles.length 6)).add (b7 ky x.roles):=gZ
    have hT13:=hl7
    rw [hE13] at hT13
    have hN13:=gM zO hT13
    refine Tq1 ?_
    refine lZ (hW.next _) (aQ hT13) ?_
    rw [hF.pp]
    refine Tq1 ?_
    refine aD (A:=Nat) (fun k=>[(1,.ptr H.nx 0),(4,.ptr (H.nx+1+1) 0),(87,.slice .any 6 (x.roles.map (aN))),(88,.int .i64 (x.roles.length:Int)),(89,.int .i64 (k:Int))]) (fun k=>swH HB (H.nx+1+1) (H.nx+1+1+1) ((((((((((((enc0.add (cf x.maxBatch 2)).add (cf x.budget 2)).add (fI x))).add (bp eM 12 x.actions))).add (bp gH 8 x.tables))).add (bp iy 12 x.stages))).add (dc x.roles.length 6)).add (b7 ky (x.roles.take k)))) (fun k=>k≤x.roles.length) (fun k=>x.roles.length - k) 0 (by omega) ?_ fun k1 hk1=>?_
    ·rw [yar,b7,cW]
     refine eNt (hcl1 _) ?_ ?_ (a:=by simp only [zkq,zkv,zle,ak];omega)
     ·exact Y16
     ·exact Y14
    refine Tq15 ?_
    refine ay (fun hc=>?_) (fun hc=>?_)
    ·have hk1':k1<x.roles.length:=sHc
     obtain ⟨x1,hx1⟩:∃ x1,x1=x.roles[k1]:=⟨_,rfl⟩
     have hg1:=cK (f:=aN) (l:=x.roles) (k:=k1) (x:=x1) (by rw [gQq hk1',hx1])
     have e15:IntKind.i64.wrap ((k1:Int)+1)=((k1+1:Nat):Int):=by rw [wrap_i64]<;>omega
     have ho1:=(ha.r) x1 (by rw [hx1];exact gMq hk1')
     obtain ⟨es1,hlk1⟩:=dd (g:=ky) hk1' hx1 hT13
     simp only [go_sem,hcw,hcI,swC,aS,iNq,ybb,hg1,aN,ak,hnB,ybb,bY,bV,bZ,bQ,bT,b5,bX,bW,bU,bR,bN,bP,bO,AV.cells,ap,aX,aH,aJ,az,aY,aK,aT,bh,aN,aO,aB,ax,vc,inL,boL,ak]
     refine ⟨by omega,?_⟩
     skip
     refine oQ (c:=aN) (ho1) ((hW.next _).push _) hlk1 ?_
     rw [hF.p1]
     rw [es1]
     refine Tq65 ?_
     refine ⟨k1+1,by omega,by omega,eNt (hcl1 _) ?_ ?_ (a:=by simp only [zkq,zkv,zle,ak];omega)⟩
     ·exact Y18
     ·exact Y14
    ·have hk1':k1=x.roles.length:=sHc
     subst hk1'
     rw [List.take_length]
     rw [← hE13]
     have hE14:((((((((((((enc0.add (cf x.maxBatch 2)).add (cf x.budget 2)).add (fI x))).add (bp eM 12 x.actions))).add (bp gH 8 x.tables))).add (bp iy 12 x.stages))).add (bp ky 6 x.roles))).add (bp qG 8 x.refs)=(((((((((((((enc0.add (cf x.maxBatch 2)).add (cf x.budget 2)).add (fI x))).add (bp eM 12 x.actions))).add (bp gH 8 x.tables))).add (bp iy 12 x.stages))).add (bp ky 6 x.roles))).add (dc x.refs.length 8)).add (b7 qG x.refs):=gZ
     have hT14:=hl8
     rw [hE14] at hT14
     have hN14:=gM CQ hT14
     refine Tq1 ?_
     refine lZ (hW.next _) (aQ hT14) ?_
     rw [hF.pp]
     refine Tq1 ?_
     refine aD (A:=Nat) (fun k=>[(1,.ptr H.nx 0),(4,.ptr (H.nx+1+1) 0),(103,.slice .any 6 (x.refs.map (bh))),(104,.int .i64 (x.refs.length:Int)),(105,.int .i64 (k:Int))]) (fun k=>swH HB (H.nx+1+1) (H.nx+1+1+1) ((((((((((((((enc0.add (cf x.maxBatch 2)).add (cf x.budget 2)).add (fI x))).add (bp eM 12 x.actions))).add (bp gH 8 x.tables))).add (bp iy 12 x.stages))).add (bp ky 6 x.roles))).add (dc x.refs.length 8)).add (b7 qG (x.refs.take k)))) (fun k=>k≤x.refs.length) (fun k=>x.refs.length - k) 0 (by omega) ?_ fun k1 hk1=>?_
     ·rw [yar,b7,cW]
      refine eNt (hcl1 _) ?_ ?_ (a:=by simp only [zkq,zkv,zle,ak];omega)
      ·exact Y16
      ·exact Y14
     refine Tq15 ?_
     refine ay (fun hc=>?_) (fun hc=>?_)
     ·have hk1':k1<x.refs.length:=sHc
      obtain ⟨x1,hx1⟩:∃ x1,x1=x.refs[k1]:=⟨_,rfl⟩
      have hg1:=cK (f:=bh) (l:=x.refs) (k:=k1) (x:=x1) (by rw [gQq hk1',hx1])
      have e15:IntKind.i64.wrap ((k1:Int)+1)=((k1+1:Nat):Int):=by rw [wrap_i64]<;>omega
      obtain ⟨es1,hlk1⟩:=dd (g:=qG) hk1' hx1 hT14
      simp only [go_sem,hcw,hcI,swC,aS,iNq,ybb,hg1,bh,ak,hnB,ybb,bY,bV,bZ,bQ,bT,b5,bX,bW,bU,bR,bN,bP,bO,AV.cells,ap,aX,aH,aJ,az,aY,aK,aT,bh,aN,aO,aB,ax,vc,inL,boL,ak]
      refine ⟨by omega,?_⟩
      rw [show qG x1=((cf x1.table 2).add ((cf x1.key 1).add ((cf x1.action 2).add ((cf x1.param 1).add ((cf x1.toTable 2).add (cf x1.toKey 1)))))) from rfl] at es1 hlk1
      rw [← aG,← aG,← aG,← aG,← aG] at hlk1
      rw [← aG,← aG,← aG,← aG,← aG] at es1
      have hm14:=aQ hlk1
      have hm13:=aQ hm14
      have hm12:=aQ hm13
      have hm11:=aQ hm12
      have hm10:=aQ hm11
      refine Tq8 ?_
      refine cY (.inr rfl) ((hW.next _).push _) hm10 ?_
      rw [hF.p1]
      refine Tq8 ?_
      refine cY (.inl rfl) ((hW.next _).push _) hm11 ?_
      rw [hF.p1]
      refine Tq8 ?_
      refine cY (.inr rfl) ((hW.next _).push _) hm12 ?_
      rw [hF.p1]
      refine Tq8 ?_
      refine cY (.inl rfl) ((hW.next _).push _) hm13 ?_
      rw [hF.p1]
      refine Tq8 ?_
      refine cY (.inr rfl) ((hW.next _).push _) hm14 ?_
      rw [hF.p1]
      refine Tq8 ?_
      refine cY (.inl rfl) ((hW.next _).push _) hlk1 ?_
      rw [hF.p1]
      rw [es1]
      refine Tq65 ?_
      refine ⟨k1+1,by omega,by omega,eNt (hcl1 _) ?_ ?_ (a:=by simp only [zkq,zkv,zle,ak];omega)⟩
      ·exact Y18
      ·exact Y14
     ·have hk1':k1=x.refs.length:=sHc
      subst hk1'
      rw [List.take_length]
      rw [← hE14]
      rw [← hTot]
      rcases hR with ⟨h1,rfl⟩|⟨h1,h2,rfl⟩|⟨h1,h2,h3,rfl⟩|⟨h1,h2,h3,h4,rfl⟩|⟨h1,h2,h3,h4,rfl⟩
      ·skip
       try simp only [go_sem,hcw,hcI,swC,aS,ak,hnB,ybb,h1,zlk]
       exact Y22
      ·skip
       try simp only [go_sem,hcw,hcI,swC,aS,ak,hnB,ybb,h1,h2,zlk]
       exact Y22
      ·skip
       try simp only [go_sem,hcw,hcI,swC,aS,ak,hnB,ybb,h1,h2,h3,zlk]
       exact Y22
      ·skip
       have d4:decide (((jf x).b.length:Int) > 8000)=true:=dtq (by omega)
       refine Tq33 ?_
       exact Y22
      ·skip
       have d4:decide (((jf x).b.length:Int) > 8000)=false:=dfq (by omega)
       refine Tq33 ?_
       exact Y22
theorem QA:tSl Tryz.prog 22 5:=kSl
attribute [go_sem] QA
theorem JJ:tSl Tryz.prog 28 86:=kSl
theorem H8:tSl Tryz.prog 29 57:=kSl
theorem Gt:tSl Tryz.prog 31 48:=kSl
theorem I3:tSl Tryz.prog 25 45:=kSl
theorem LF:tSl Tryz.prog 83 114:=kSl
theorem Iw:tSl Tryz.prog 32 50:=kSl
theorem Jq:tSl Tryz.prog 84 112:=kSl
theorem LQ:tSl Tryz.prog 30 75:=kSl
theorem Gx:tSl Tryz.prog 23 3:=kSl
theorem Me:ti Tryz.prog 86=some ⟨.struct [(0,3,false),(1,9,false),(2,83,false),(3,84,false),(4,9,false)],5,88,.agg [.int .i64 0,.str [],.slice .nil 1 [],.slice .nil 1 [],.str []]⟩:=krf
theorem Mn:ti Tryz.prog 57=some ⟨.struct [(0,3,false),(1,9,false),(2,54,false),(3,23,false),(4,3,false),(5,55,false),(6,3,false),(7,9,false)],8,128,.agg [.int .i64 0,.str [],.slice .nil 1 [],.slice .nil 1 [],.int .i64 0,.slice .nil 1 [],.int .i64 0,.str []]⟩:=krf
theorem MJ:ti Tryz.prog 48=some ⟨.struct [(0,3,false),(1,9,false),(2,46,false),(3,23,false),(4,3,false),(5,4,false)],6,88,.agg [.int .i64 0,.str [],.slice .nil 1 [],.slice .nil 1 [],.int .i64 0,.bool false]⟩:=krf
theorem M1:ti Tryz.prog 45=some ⟨.struct [(0,3,false),(1,9,false),(2,3,false)],3,32,.agg [.int .i64 0,.str [],.int .i64 0]⟩:=krf
theorem Pc:ti Tryz.prog 114=some ⟨.struct [(0,9,false),(1,3,false)],2,24,.agg [.str [],.int .i64 0]⟩:=krf
theorem MM:ti Tryz.prog 112=some ⟨.struct [(0,3,false),(1,3,false),(2,110,false)],6,48,.agg [.int .i64 0,.int .i64 0,.int .i64 0,.int .i64 0,.int .u64 0,.int .u64 0]⟩:=krf
theorem OO:ti Tryz.prog 110=some ⟨.struct [(0,3,false),(1,3,false),(2,106,false)],4,32,.agg [.int .i64 0,.int .i64 0,.int .u64 0,.int .u64 0]⟩:=krf
theorem O7:ti Tryz.prog 50=some ⟨.struct [(0,3,false),(1,3,false),(2,3,false),(3,3,false),(4,3,false),(5,3,false)],6,48,.agg [.int .i64 0,.int .i64 0,.int .i64 0,.int .i64 0,.int .i64 0,.int .i64 0]⟩:=krf
theorem Pf:ti Tryz.prog 75=some ⟨.struct [(0,3,false),(1,3,false)],2,16,.agg [.int .i64 0,.int .i64 0]⟩:=krf
attribute [go_sem] JJ H8 Gt I3 LF Iw Jq LQ Gx Me Mn MJ M1 Pc MM OO O7 Pf
theorem A6 {v:Nat} (h:v<2^128):(kJ v).length≤17:=by
 unfold kJ
 rw [yaz,mD]
 have:=rq h
 omega
theorem eP (n w:Int):(cf n w).b.length≤4:=eY n w
theorem n8 (s:List UInt8) (m:Int):(ir s m).b.length≤65537:=BT s
theorem yc {v:Nat} (h:nM v):(jY v).b.length≤17:=A6 h
theorem yu (x:Bool):(ja x).b.length≤1:=by simp [ja]
theorem Hz {α:Type} {g:α→Enc} {B:Nat}:∀ {l:List α},(∀ a∈l,(g a).b.length≤B)→(b7 g l).b.length≤l.length*B
 |[],_=>Nat.zero_le _
 |x::l,h=>by
  rw [b7,dy,yaz,Nat.succ_mul]
  have:=h x List.mem_cons_self
  have:=Hz (l:=l) fun a ha=>h a (List.mem_cons_of_mem _ ha)
  omega
theorem hP {α:Type} {g:α→Enc} {m:Int} {n B:Nat} {l:List α} (hl:l.length≤n) (h:∀ a∈l,(g a).b.length≤B):(bp g m l).b.length≤4+n*B:=by
 unfold bp dc
 rw [dy]
 have h1:=Hz h
 have h2:=eY (l.length:Int) 2
 have h3:l.length*B≤n*B:=Nat.mul_le_mul_right _ hl
 dsimp only
 omega
structure SmP (N R:Nat) (x:Sch):Prop where
 f:x.fields.length≤N∧∀ a∈x.fields,oR a.name
 h:x.headers.length≤N∧∀ a∈x.headers,oR a.name∧a.fields.length≤R
 s:x.states.length≤N∧∀ a∈x.states,a.cases.length≤R∧∀ c∈a.cases,pn c
 a:x.actions.length≤N∧∀ a∈x.actions,nN a∧a.params.length≤R∧a.body.length≤R
 t:x.tables.length≤N∧∀ a∈x.tables,pM a∧a.keys.length≤R∧a.actions.length≤R∧a.dargs.length≤R
 g:x.stages.length≤R
 r:x.roles.length≤N∧∀ a∈x.roles,oR a.name∧a.grants.length≤R∧a.actions.length≤R∧∀ q∈a.grants,q.keys.length≤R
 x:x.refs.length≤R
theorem SmP.ok {N R:Nat} {x:Sch} (h:SmP N R x):OkSch x :=
 ⟨h.f.2,fun a ha=>(h.h.2 a ha).1,fun a ha=>(h.s.2 a ha).2,fun a ha=>(h.a.2 a ha).1,fun a ha=>(h.t.2 a ha).1,fun a ha=>(h.r.2 a ha).1⟩
theorem SmP.mono {N R N' R':Nat} {x:Sch} (h:SmP N R x) (hN:N≤N') (hR:R≤R'):SmP N' R' x where
 f:=⟨Nat.le_trans h.f.1 hN,h.f.2⟩
 h:=⟨Nat.le_trans h.h.1 hN,fun a ha=>⟨(h.h.2 a ha).1,Nat.le_trans (h.h.2 a ha).2 hR⟩⟩
 s:=⟨Nat.le_trans h.s.1 hN,fun a ha=>⟨Nat.le_trans (h.s.2 a ha).1 hR,(h.s.2 a ha).2⟩⟩
 a:=⟨Nat.le_trans h.a.1 hN,fun a ha=>⟨(h.a.2 a ha).1,Nat.le_trans (h.a.2 a ha).2.1 hR,Nat.le_trans (h.a.2 a ha).2.2 hR⟩⟩
 t:=⟨Nat.le_trans h.t.1 hN,fun a ha=>⟨(h.t.2 a ha).1,Nat.le_trans (h.t.2 a ha).2.1 hR,Nat.le_trans (h.t.2 a ha).2.2.1 hR,Nat.le_trans (h.t.2 a ha).2.2.2 hR⟩⟩
 g:=Nat.le_trans h.g hR
 r:=⟨Nat.le_trans h.r.1 hN,fun a ha=>⟨(h.r.2 a ha).1,Nat.le_trans (h.r.2 a ha).2.1 hR,Nat.le_trans (h.r.2 a ha).2.2.1 hR,fun q hq=>Nat.le_trans ((h.r.2 a ha).2.2.2 q hq) hR⟩⟩
 x:=Nat.le_trans h.x hR
theorem SmP.len {x:Sch} (h:SmP 50 1100000 x):(jf x).b.length≤dB:=by
 have e1:(bp gG 32 x.fields).b.length≤4+50*65545:=hP h.f.1 fun a _=>by
  unfold gG;rw [dy,dy]
  have:=eP a.id 2;have:=n8 a.name 24;have:=eP a.bits 1;omega
 have e2:(bp fX 8 x.headers).b.length≤4+50*(65545+1100000*4):=hP h.h.1 fun a ha=>by
  unfold fX;rw [dy,dy]
  have:=eP a.id 2;have:=n8 a.name 24
  have:=hP (g:=jU) (m:=32) (h.h.2 a ha).2 (B:=4) fun n _=>eP n 2
  omega
 have e3:(bp iW 12 x.states).b.length≤4+50*(20+1100000*38):=hP h.s.1 fun a ha=>by
  unfold iW;rw [dy,dy,dy,dy]
  have:=eP a.id 2;have:=eP a.header 2;have:=eP a.select 2;have:=eP a.dflt 2
  have:=hP (g:=mv) (m:=6) (h.s.2 a ha).1 (B:=38) fun c hc=>by
   unfold mv;rw [dy,dy]
   have:=yc ((h.s.2 a ha).2 c hc).1;have:=yc ((h.s.2 a ha).2 c hc).2;have:=eP c.next 2;omega
  omega
 have e4:(bp eM 12 x.actions).b.length≤4+50*(131086+1100000*65541+1100000*33):=hP h.a.1 fun a ha=>by
  unfold eM;rw [dy,dy,dy,dy]
  obtain ⟨h1,h2,h3⟩:=h.a.2 a ha
  have:=eP a.id 2;have:=n8 a.name 24;have:=n8 a.restr 400
  have:=hP (g:=jr) (m:=4) h2 (B:=65541) fun c hc=>by
   unfold jr;rw [dy]
   have:=n8 c.name 24;have:=eP c.bits 1;omega
  have:=hP (g:=mJ) (m:=12) h3 (B:=33) fun c hc=>by
   unfold mJ;rw [dy,dy,dy,dy]
   have:=eP c.op 1;have:=eP c.dst 2;have:=eP c.kind 1;have:=eP c.n 2;have:=yc (h1.2.2.1 c hc);omega
  omega
 have e5:(bp gH 8 x.tables).b.length≤4+50*(131098+1100000*65545+1100000*4+1100000*17):=hP h.t.1 fun a ha=>by
  unfold gH;simp only [dy]
  obtain ⟨h1,h2,h3,h4⟩:=h.t.2 a ha
  have:=eP a.id 2;have:=n8 a.name 24;have:=n8 a.restr 400;have:=eP a.dflt 2;have:=eP a.size 2
  have:=hP (g:=pI) (m:=4) h2 (B:=65545) fun c hc=>by
   unfold pI;rw [dy,dy]
   have:=n8 c.name 24;have:=eP c.field 2;have:=eP c.kind 1;omega
  have:=hP (g:=jU) (m:=12) h3 (B:=4) fun n _=>eP n 2
  have:=hP (g:=jY) (m:=4) h4 (B:=17) fun v hv=>yc (h1.2.2.1 v hv)
  omega
 have e6:(bp iy 12 x.stages).b.length≤4+1100000*8:=hP h.g fun a _=>by
  unfold iy;rw [dy]
  have:=eP a.table 2;have:=eP a.header 2;omega
 have e7:(bp ky 6 x.roles).b.length≤4+50*(65560+1100000*(10+1100000*1)+1100000*4):=hP h.r.1 fun a ha=>by
  unfold ky;simp only [dy]
  obtain ⟨h1,h2,h3,h4⟩:=h.r.2 a ha
  have:=eP a.id 2;have:=n8 a.name 24;have:=eP a.quota 2;have:=yu a.audit
  have:=hP (g:=jA) (m:=8) h2 (B:=10+1100000*1) fun c hc=>by
   unfold jA;simp only [dy]
   have:=eP c.table 2;have:=yu c.read;have:=yu c.write
   have:=hP (g:=ja) (m:=4) (h4 c hc) (B:=1) fun y _=>yu y
   omega
  have:=hP (g:=jU) (m:=12) h3 (B:=4) fun n _=>eP n 2
  omega
 have e8:(bp qG 8 x.refs).b.length≤4+1100000*24:=hP h.x fun a _=>by
  unfold qG;simp only [dy]
  have:=eP a.table 2;have:=eP a.key 1;have:=eP a.action 2;have:=eP a.param 1;have:=eP a.toTable 2;have:=eP a.toKey 1;omega
 unfold jf fI
 simp only [dy]
 rw [bL]
 have:=eP x.maxBatch 2;have:=eP x.budget 2
 omega
theorem Cf:tSl Tryz.prog 39 34:=kSl
attribute [go_sem] Cf
theorem fR {s:List UInt8} (h:s.length≤1000):oR s:=by unfold oR;rw [bL];omega
theorem jT {v:Nat} (h:v≤1000):nM v:=by unfold nM;omega
theorem wr (b:List UInt8) (v:Nat):(dH b v).1.length≤40∧∀ a∈(dH b v).1,a.cases.length≤1000∧∀ c∈a.cases,pn c:=by
 have h2:=l7 (b:=b) (v:=v+2) (n:=2) (by decide)
 have h6:=l7 (b:=b) (v:=v+6) (n:=3) (by decide)
 have h4:=l7 (b:=b) (v:=v+4) (n:=3) (by decide)
 unfold dH
 (repeat' split)<;>refine ⟨by simp,fun a ha=>?_⟩<;>simp only [List.mem_cons,List.not_mem_nil,or_false] at ha<;>rcases ha with rfl|rfl|rfl<;>refine ⟨by simp,fun c hc=>?_⟩ <;>
   simp only [List.mem_cons,List.not_mem_nil,or_false] at hc <;>
   first
    |exact hc.elim
    |(subst hc;exact ⟨jT (by dsimp only;omega),jT (by dsimp only;omega)⟩)
    |(rcases hc with rfl|rfl<;>exact ⟨jT (by dsimp only;omega),jT (by dsimp only;omega)⟩)
    |(rcases hc with rfl|rfl|rfl<;>exact ⟨jT (by dsimp only;omega),jT (by dsimp only;omega)⟩)
theorem vN (b:List UInt8) (v:Nat):(fZ b v).length=6∧∀ a∈fZ b v,nN a∧a.params.length≤1000∧a.body.length≤1000:=by
 have h1:=l7 (b:=b) (v:=v+1) (n:=256) (by decide)
 refine ⟨rfl,fun a ha=>?_⟩
 simp only [fZ,List.mem_cons,List.not_mem_nil,or_false] at ha
 rcases ha with rfl|rfl|rfl|rfl|rfl|rfl<;>refine ⟨⟨fR (by simp),fun p hp=>?_,fun p hp=>?_,fR (by dsimp only;(try split)<;>simp)⟩,by simp,by simp⟩<;>simp only [List.mem_cons,List.not_mem_nil,or_false] at hp <;>
  first
   |exact hp.elim
   |(subst hp;first|exact fR (by simp)|exact jT (by dsimp only;omega))
   |(rcases hp with rfl|rfl<;>first|exact fR (by simp)|exact jT (by dsimp only;omega))
   |(rcases hp with rfl|rfl|rfl<;>first|exact fR (by simp)|exact jT (by dsimp only;omega))
theorem om {L:List (List UInt8)} (h:∀ s∈L,s.length≤1000) (i:Nat):oR (L.getD i []):=by
 rw [gEq]
 cases hi:L[i]? with
 |none=>exact fR (by simp)
 |some s=>exact fR (h s (List.mem_of_getElem? hi))
theorem wu (b:List UInt8) (v:Nat):(fy b v).length=4∧∀ a∈fy b v,pM a∧a.keys.length≤1000∧a.actions.length≤1000∧a.dargs.length≤1000:=by
 refine ⟨rfl,fun a ha=>?_⟩
 simp only [fy,List.mem_cons,List.not_mem_nil,or_false] at ha
 rcases ha with rfl|rfl|rfl|rfl
 ·refine ⟨⟨fR (by simp [lJ]),fun k hk=>?_,by simp [lJ],om (by decide) _⟩,by simp [lJ],by simp [lJ],by simp [lJ]⟩
  simp only [lJ,List.mem_cons,List.not_mem_nil,or_false] at hk
  subst hk;exact fR (by simp)
 ·refine ⟨⟨fR (by simp [lB]),fun k hk=>?_,by simp [lB],om (by decide) _⟩,by simp only [lB];split<;>simp,by simp [lB],by simp [lB]⟩
  simp only [lB] at hk
  split at hk<;>simp only [yal,yak,yaj,List.mem_cons,List.not_mem_nil,or_false] at hk
  ·rcases hk with rfl|rfl<;>exact fR (by simp)
  ·subst hk;exact fR (by simp)
 ·refine ⟨⟨fR (by simp [gy]),fun k hk=>?_,by simp [gy],om (by decide) _⟩,by simp only [gy];split<;>simp,by simp [gy],by simp [gy]⟩
  simp only [gy] at hk
  split at hk<;>simp only [yal,yak,yaj,List.mem_cons,List.not_mem_nil,or_false] at hk
  ·rcases hk with rfl|rfl|rfl<;>exact fR (by simp)
  ·rcases hk with rfl|rfl<;>exact fR (by simp)
 ·refine ⟨⟨fR (by simp [gC]),fun k hk=>?_,fun x hx=>?_,om (by decide) _⟩,by simp only [gC];split<;>simp,by simp [gC],by simp [gC]⟩
  ·simp only [gC] at hk
   split at hk<;>simp only [yal,yak,yaj,List.mem_cons,List.not_mem_nil,or_false] at hk
   ·rcases hk with rfl|rfl|rfl<;>exact fR (by simp)
   ·subst hk;exact fR (by simp)
  ·simp only [gC,List.mem_singleton] at hx
   subst hx;exact jT (by omega)
def GrOk (n:Nat) (l:List SGrant):Prop:=l.length≤n∧∀ q∈l,q.keys.length≤1000
theorem GrOk.nil {n:Nat}:GrOk n []:=⟨Nat.zero_le _,fun q hq=>by cases hq⟩
theorem GrOk.cons {n:Nat} {l:List SGrant} {q:SGrant} (h:GrOk n l) (hq:q.keys.length≤1000):GrOk (n+1) (q::l) :=
 ⟨Nat.succ_le_succ h.1,fun x hx=>(List.mem_cons.1 hx).elim (fun e=>e ▸ hq) (h.2 x)⟩
theorem GrOk.up {n:Nat} {l:List SGrant} (h:GrOk n l):GrOk (n+1) l:=⟨Nat.le_succ_of_le h.1,h.2⟩
theorem jQ (b:List UInt8):∀ (ts:List STable) (v:Nat),(∀ t∈ts,t.keys.length≤1000)→GrOk ts.length (fH b ts v).1.1∧GrOk ts.length (fH b ts v).1.2.1∧GrOk ts.length (fH b ts v).1.2.2
 |[],v,_=>⟨.nil,.nil,.nil⟩
 |t::ts,v,h=>by
  have ht:=h t List.mem_cons_self
  have hp:∀ v,(lY b v t.keys.length).length≤1000:=fun v=>by simp [lY];exact ht
  have hr:(List.replicate t.keys.length true).length≤1000:=by simp;exact ht
  simp only [fH]
  rw [yaz]
  split<;>split
  ·obtain ⟨i1,i2,i3⟩:=jQ b ts (v+t.keys.length+3+3) fun x hx=>h x (List.mem_cons_of_mem _ hx)
   exact ⟨i1.cons hr,i2.cons (hp _),i3.cons hr⟩
  ·obtain ⟨i1,i2,i3⟩:=jQ b ts (v+t.keys.length+3+1) fun x hx=>h x (List.mem_cons_of_mem _ hx)
   exact ⟨i1.cons hr,i2.cons (hp _),i3.up⟩
  ·obtain ⟨i1,i2,i3⟩:=jQ b ts (v+t.keys.length+1+3) fun x hx=>h x (List.mem_cons_of_mem _ hx)
   exact ⟨i1.cons hr,i2.up,i3.cons hr⟩
  ·obtain ⟨i1,i2,i3⟩:=jQ b ts (v+t.keys.length+1+1) fun x hx=>h x (List.mem_cons_of_mem _ hx)
   exact ⟨i1.cons hr,i2.up,i3.up⟩
theorem Ks (b:List UInt8) (v:Nat):SmP 40 1000 (lG b v).1:=by
 unfold lG
 dsimp only
 obtain ⟨t1,t2⟩:=wu b (cp (dH b (cp v 2)).2 4)
 obtain ⟨a1,a2⟩:=vN b (dH b (cp v 2)).2
 refine ⟨⟨(by decide:gFields.length≤40),fun a ha=>?_⟩,⟨(by decide:gHeaders.length≤40),fun a ha=>?_⟩,wr b _,⟨by dsimp only;omega,a2⟩,⟨by dsimp only;omega,t2⟩,?_,⟨by simp [lg],fun a ha=>?_⟩,?_⟩
 ·simp only [gFields,List.mem_cons,List.not_mem_nil,or_false] at ha
  rcases ha with rfl|rfl|rfl|rfl|rfl|rfl|rfl|rfl|rfl<;>exact fR (by simp)
 ·simp only [gHeaders,List.mem_cons,List.not_mem_nil,or_false] at ha
  rcases ha with rfl|rfl|rfl<;>exact ⟨fR (by simp),by simp⟩
 ·split<;>simp
 ·obtain ⟨g1,g2,g3⟩:=jQ b (fy b (cp (dH b (cp v 2)).2 4)) (cp (dH b (cp v 2)).2 16+4) fun t ht=>(t2 t ht).2.1
  rw [t1] at g1 g2 g3
  simp only [lg,List.mem_cons,List.not_mem_nil,or_false] at ha
  rcases ha with rfl|rfl|rfl
  ·exact ⟨fR (by simp),by have:=g1.1;dsimp only;omega,by simp,g1.2⟩
  ·exact ⟨fR (by simp),by have:=g2.1;dsimp only;omega,by simp,g2.2⟩
  ·exact ⟨fR (by simp),by have:=g3.1;dsimp only;omega,by simp,g3.2⟩
 ·(repeat' split)<;>simp
theorem Fs {b:List UInt8}:zod b 0=iu b (cp 0 0):=by
 unfold zod iu cp
 simp
end Go.AL
