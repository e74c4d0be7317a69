/- Lemmas of the proof; no condition. -/
import Derived.Test.YthnlhjalhflgfaaGreatW03e
set_option linter.all false
set_option maxRecDepth 10000
set_option maxHeartbeats 32000000
open Go Go.AL Go.Proofs
namespace Go.AL
theorem DM:ti Tryz.prog 134=some ⟨.struct [(0,3,false),(1,131,false),(2,132,false)],3,24,.agg [.int .i64 0,.nilf,.nilf]⟩:=krf
theorem JQ:tFn Tryz.prog 131:=kFn
theorem JH:tFn Tryz.prog 132:=kFn
theorem DS:ti Tryz.prog 140=some ⟨.struct [(0,3,false),(1,137,false),(2,138,false)],3,24,.agg [.int .i64 0,.nilf,.nilf]⟩:=krf
theorem IO:tFn Tryz.prog 137:=kFn
theorem Hg:tFn Tryz.prog 138:=kFn
theorem Ec:ti Tryz.prog 146=some ⟨.struct [(0,3,false),(1,143,false),(2,144,false)],3,24,.agg [.int .i64 0,.nilf,.nilf]⟩:=krf
theorem Jx:tFn Tryz.prog 143:=kFn
theorem Lx:tFn Tryz.prog 144:=kFn
theorem Ei:ti Tryz.prog 295=some ⟨.struct [(0,3,false),(1,292,false),(2,293,false)],3,24,.agg [.int .i64 0,.nilf,.nilf]⟩:=krf
theorem KH:tFn Tryz.prog 292:=kFn
theorem I4:tFn Tryz.prog 293:=kFn
attribute [go_sem] DM JQ JH DS IO Hg Ec Jx Lx Ei KH I4
def CF:=eW (az) vp fT
def IG:=mt 196 3 (az) vp fT
theorem Jt:EEe 196 CF:=by
 unfold CF
 refine Yef fun _ H K h=>?_
 unfold eW at h
 split at h<;>try exact h.elim
 rename_i id x
 obtain ⟨q,s,a,⟨hW,rfl,ha,hl⟩,hK⟩:=h
 refine ⟨_,_,hK,?_⟩
 clear hK
 have hF:=hW.facts
 have hcl0:=hW.closed (t:=s.add (fT a))
 have hid:=glq hW.o
 have hq:=glq hW.bu
 refine Yfw aE (tCq iZ (tCq nL (tCq vt (tCq sC tNq)))) Tryz.func196 [] (by rw [ak];omega) (T:=aB [(3,[[],[],[],[],[1,3]])]) (h:=fun hcl=>?_)
 have hcl1:=hcl0 hcl
 unfold fT at hl hcl1 ⊢
 rw [← aH,← aH] at hl hcl1 ⊢
 have hl3:=hl
 have hl2:=aQ hl3
 have hl1:=aQ hl2
 simp only [go_sem,az,fS,inL,ak,bf]
 refine cW (.inr rfl) (hW.push _) hl1 ?_
 rw [hF.p0]
 simp only [go_sem,az,fS,inL,ak,bf]
 refine kQ (ha) ((hW.next _).push _) hl2 ?_
 rw [hF.p1]
 simp only [go_sem,az,fS,inL,ak,bf]
 refine kO (c:=.int .i64) (fun _ _=>trivial) ((hW.next _).push _) hl3 ?_
 rw [hF.p1]
 try simp only [go_sem,az,fS,inL,ak,bf]
 exact Z16
theorem DP:EEe 61 IG:=lg tN (fun _ x=>b8 x) (fun _=>⟨_,rfl,rfl,rfl⟩) fun wf sz c ok g ew es ec eo eg hone hlt' hag id most r q s l H hW ha hl=>by
 refine ACalls.fW aE (tCq di (tCq Jt tNq)) Tryz.func61 [] (by rw [ak];omega) (T:=aB [(2,[[],[],[],[],[],[],[],[],[4,7],[],[],[4,7]])]) (h:=fun hcl hlt=>?_)
 exact Y0
def jU:PCt
 |[],_,K=>K (.agg (cj 8 196 199))
 |_,_,_=>False
theorem Hf:EPp 62 jU:=by
 refine Ype fun _ H K h=>?_
 unfold jU at h
 split at h<;>try exact h.elim
 refine ⟨_,h,?_⟩
 refine Yfv aE tNq Tryz.func62 [.cell 0 134] fun hcl hlt=>?_
 exact Y48
def BX:=eW (aA) xw iY
def HN:=mt 201 5 (aA) xw iY
theorem F0:EEe 201 BX:=by
 unfold BX
 refine Yef fun _ H K h=>?_
 unfold eW at h
 split at h<;>try exact h.elim
 rename_i id x
 obtain ⟨q,s,a,⟨hW,rfl,ha,hl⟩,hK⟩:=h
 refine ⟨_,_,hK,?_⟩
 clear hK
 have hF:=hW.facts
 have hcl0:=hW.closed (t:=s.add (iY a))
 have hid:=glq hW.o
 have hq:=glq hW.bu
 refine Yfw aE (tCq iZ (tCq IV (tCq DV tNq))) Tryz.func201 [] (by rw [ak];omega) (T:=aB [(4,[[],[],[],[],[1,3]])]) (h:=fun hcl=>?_)
 have hcl1:=hcl0 hcl
 unfold iY at hl hcl1 ⊢
 rw [← aH,← aH,← aH,← aH] at hl hcl1 ⊢
 have hl5:=hl
 have hl4:=aQ hl5
 have hl3:=aQ hl4
 have hl2:=aQ hl3
 have hl1:=aQ hl2
 simp only [go_sem,aA,mG,ak,bf]
 refine cW (.inr rfl) (hW.push _) hl1 ?_
 rw [hF.p0]
 simp only [go_sem,aA,mG,ak,bf]
 refine cW (.inr rfl) ((hW.next _).push _) hl2 ?_
 rw [hF.p1]
 simp only [go_sem,aA,mG,ak,bf]
 refine cW (.inr rfl) ((hW.next _).push _) hl3 ?_
 rw [hF.p1]
 simp only [go_sem,aA,mG,ak,bf]
 refine kO (c:=bb) (ha) ((hW.next _).push _) hl4 ?_
 rw [hF.p1]
 simp only [go_sem,aA,mG,ak,bf]
 refine cW (.inr rfl) ((hW.next _).push _) hl5 ?_
 rw [hF.p1]
 try simp only [go_sem,aA,mG,ak,bf]
 exact Z16
theorem EK:EEe 63 HN:=lg wV (fun _ x=>cg x) (fun _=>⟨_,rfl,rfl,rfl⟩) fun wf sz c ok g ew es ec eo eg hone hlt' hag id most r q s l H hW ha hl=>by
 refine ACalls.fW aE (tCq di (tCq F0 tNq)) Tryz.func63 [] (by rw [ak];omega) (T:=aB [(2,[[],[],[],[],[],[],[],[],[4,7],[],[],[4,7]])]) (h:=fun hcl hlt=>?_)
 exact Y0
def jX:PCt
 |[],_,K=>K (.agg (cj 12 201 204))
 |_,_,_=>False
theorem IE:EPp 64 jX:=by
 refine Ype fun _ H K h=>?_
 unfold jX at h
 split at h<;>try exact h.elim
 refine ⟨_,h,?_⟩
 refine Yfv aE tNq Tryz.func64 [.cell 0 140] fun hcl hlt=>?_
 exact Y48
def Cp:=eW (ap) m9 eJ
def IQ:=mt 206 5 (ap) m9 eJ
theorem JA:EEe 206 Cp:=by
 unfold Cp
 refine Yef fun _ H K h=>?_
 unfold eW at h
 split at h<;>try exact h.elim
 rename_i id x
 obtain ⟨q,s,a,⟨hW,rfl,ha,hl⟩,hK⟩:=h
 refine ⟨_,_,hK,?_⟩
 clear hK
 have hF:=hW.facts
 have hcl0:=hW.closed (t:=s.add (eJ a))
 have hid:=glq hW.o
 have hq:=glq hW.bu
 refine Yfw aE (tCq iZ (tCq nL (tCq I2 (tCq EU (tCq He (tCq Fe tNq)))))) Tryz.func206 [] (by rw [ak];omega) (T:=aB [(3,[[],[],[],[],[1,3]]),(4,[[],[],[],[],[1,3]])]) (h:=fun hcl=>?_)
 have hcl1:=hcl0 hcl
 unfold eJ at hl hcl1 ⊢
 rw [← aH,← aH,← aH,← aH] at hl hcl1 ⊢
 have hl5:=hl
 have hl4:=aQ hl5
 have hl3:=aQ hl4
 have hl2:=aQ hl3
 have hl1:=aQ hl2
 simp only [go_sem,ap,mH,mM,ak,bf]
 refine cW (.inr rfl) (hW.push _) hl1 ?_
 rw [hF.p0]
 simp only [go_sem,ap,mH,mM,ak,bf]
 refine kQ (ha.1) ((hW.next _).push _) hl2 ?_
 rw [hF.p1]
 simp only [go_sem,ap,mH,mM,ak,bf]
 refine kO (c:=aL) (ha.2.1) ((hW.next _).push _) hl3 ?_
 rw [hF.p1]
 simp only [go_sem,ap,mH,mM,ak,bf]
 refine kO (c:=aT) (ha.2.2.1) ((hW.next _).push _) hl4 ?_
 rw [hF.p1]
 simp only [go_sem,ap,mH,mM,ak,bf]
 refine kQ (ha.2.2.2) ((hW.next _).push _) hl5 ?_
 rw [hF.p1]
 try simp only [go_sem,ap,mH,mM,ak,bf]
 exact Z16
theorem Ew:EEe 65 IQ:=lg tW (fun _ x=>bI x) (fun _=>⟨_,rfl,rfl,rfl⟩) fun wf sz c ok g ew es ec eo eg hone hlt' hag id most r q s l H hW ha hl=>by
 refine ACalls.fW aE (tCq di (tCq JA tNq)) Tryz.func65 [] (by rw [ak];omega) (T:=aB [(2,[[],[],[],[],[],[],[],[],[4,7],[],[],[4,7]])]) (h:=fun hcl hlt=>?_)
 exact Y0
def jS:PCt
 |[],_,K=>K (.agg (cj 12 206 211))
 |_,_,_=>False
theorem FP:EPp 66 jS:=by
 refine Ype fun _ H K h=>?_
 unfold jS at h
 split at h<;>try exact h.elim
 refine ⟨_,h,?_⟩
 refine Yfv aE tNq Tryz.func66 [.cell 0 146] fun hcl hlt=>?_
 exact Y48
def C8:=eW (aJ) qS jp
def Hx:=mt 312 4 (aJ) qS jp
theorem Jk:EEe 312 C8:=by
 unfold C8
 refine Yef fun _ H K h=>?_
 unfold eW at h
 split at h<;>try exact h.elim
 rename_i id x
 obtain ⟨q,s,a,⟨hW,rfl,ha,hl⟩,hK⟩:=h
 refine ⟨_,_,hK,?_⟩
 clear hK
 have hF:=hW.facts
 have hcl0:=hW.closed (t:=s.add (jp a))
 have hid:=glq hW.o
 have hq:=glq hW.bu
 refine Yfw aE (tCq iZ (tCq xq (tCq KW (tCq EW tNq)))) Tryz.func312 [] (by rw [ak];omega) (T:=aB [(4,[[],[],[],[],[1,3]])]) (h:=fun hcl=>?_)
 have hcl1:=hcl0 hcl
 unfold jp at hl hcl1 ⊢
 rw [← aH,← aH,← aH] at hl hcl1 ⊢
 have hl4:=hl
 have hl3:=aQ hl4
 have hl2:=aQ hl3
 have hl1:=aQ hl2
 simp only [go_sem,aJ,nX,boL,ak,bf]
 refine cW (.inr rfl) (hW.push _) hl1 ?_
 rw [hF.p0]
 simp only [go_sem,aJ,nX,boL,ak,bf]
 refine sO ((hW.next _).push _) hl2 ?_
 rw [hF.p1]
 simp only [go_sem,aJ,nX,boL,ak,bf]
 refine sO ((hW.next _).push _) hl3 ?_
 rw [hF.p1]
 simp only [go_sem,aJ,nX,boL,ak,bf]
 refine kO (c:=.bool) (fun _ _=>trivial) ((hW.next _).push _) hl4 ?_
 rw [hF.p1]
 try simp only [go_sem,aJ,nX,boL,ak,bf]
 exact Z16
theorem Fg:EEe 225 Hx:=lg wY (fun _ x=>cb x) (fun _=>⟨_,rfl,rfl,rfl⟩) fun wf sz c ok g ew es ec eo eg hone hlt' hag id most r q s l H hW ha hl=>by
 refine ACalls.fW aE (tCq di (tCq Jk tNq)) Tryz.func225 [] (by rw [ak];omega) (T:=aB [(2,[[],[],[],[],[],[],[],[],[4,7],[],[],[4,7]])]) (h:=fun hcl hlt=>?_)
 exact Y0
def lR:PCt
 |[],_,K=>K (.agg (cj 8 312 315))
 |_,_,_=>False
theorem Hd:EPp 226 lR:=by
 refine Ype fun _ H K h=>?_
 unfold lR at h
 split at h<;>try exact h.elim
 refine ⟨_,h,?_⟩
 refine Yfv aE tNq Tryz.func226 [.cell 0 295] fun hcl hlt=>?_
 exact Y48
theorem EA:ti Tryz.prog 152=some ⟨.struct [(0,3,false),(1,149,false),(2,150,false)],3,24,.agg [.int .i64 0,.nilf,.nilf]⟩:=krf
theorem It:tFn Tryz.prog 149:=kFn
theorem HM:tFn Tryz.prog 150:=kFn
theorem E8:ti Tryz.prog 164=some ⟨.struct [(0,3,false),(1,161,false),(2,162,false)],3,24,.agg [.int .i64 0,.nilf,.nilf]⟩:=krf
theorem IU:tFn Tryz.prog 161:=kFn
theorem Hp:tFn Tryz.prog 162:=kFn
attribute [go_sem] EA It HM E8 IU Hp
def B6:=eW (ax) pP gB
def Jh:=mt 214 8 (ax) pP gB
theorem Lf:EEe 214 B6:=by
 unfold B6
 refine Yef fun _ H K h=>?_
 unfold eW at h
 split at h<;>try exact h.elim
 rename_i id x
 obtain ⟨q,s,a,⟨hW,rfl,ha,hl⟩,hK⟩:=h
 refine ⟨_,_,hK,?_⟩
 clear hK
 have hF:=hW.facts
 have hcl0:=hW.closed (t:=s.add (gB a))
 have hid:=glq hW.o
 have hq:=glq hW.bu
 refine Yfw aE (tCq iZ (tCq nL (tCq Kj (tCq EB (tCq vt (tCq sC (tCq Gc (tCq Ea tNq)))))))) Tryz.func214 [] (by rw [ak];omega) (T:=aB [(3,[[],[],[],[],[1,3]]),(4,[[],[],[],[],[1,3]]),(6,[[],[],[],[],[1,3]])]) (h:=fun hcl=>?_)
 have hcl1:=hcl0 hcl
 unfold gB at hl hcl1 ⊢
 rw [← aH,← aH,← aH,← aH,← aH,← aH,← aH] at hl hcl1 ⊢
 have hl8:=hl
 have hl7:=aQ hl8
 have hl6:=aQ hl7
 have hl5:=aQ hl6
 have hl4:=aQ hl5
 have hl3:=aQ hl4
 have hl2:=aQ hl3
 have hl1:=aQ hl2
 refine Tq30 ?_
 refine cW (.inr rfl) (hW.push _) hl1 ?_
 rw [hF.p0]
 refine Tq30 ?_
 refine kQ (ha.1) ((hW.next _).push _) hl2 ?_
 rw [hF.p1]
 refine Tq30 ?_
 refine kO (c:=ba) (ha.2.1) ((hW.next _).push _) hl3 ?_
 rw [hF.p1]
 refine Tq30 ?_
 refine kO (c:=.int .i64) (fun _ _=>trivial) ((hW.next _).push _) hl4 ?_
 rw [hF.p1]
 refine Tq30 ?_
 refine cW (.inr rfl) ((hW.next _).push _) hl5 ?_
 rw [hF.p1]
 refine Tq30 ?_
 refine kO (c:=vv) (ha.2.2.1) ((hW.next _).push _) hl6 ?_
 rw [hF.p1]
 refine Tq30 ?_
 refine cW (.inr rfl) ((hW.next _).push _) hl7 ?_
 rw [hF.p1]
 refine Tq30 ?_
 refine kQ (ha.2.2.2) ((hW.next _).push _) hl8 ?_
 rw [hF.p1]
 try simp only [go_sem,ax,fS,kE,kp,inL,ak,bf]
 exact Z16
theorem Ep:EEe 67 Jh:=lg wF (fun _ x=>b7 x) (fun _=>⟨_,rfl,rfl,rfl⟩) fun wf sz c ok g ew es ec eo eg hone hlt' hag id most r q s l H hW ha hl=>by
 refine ACalls.fW aE (tCq di (tCq Lf tNq)) Tryz.func67 [] (by rw [ak];omega) (T:=aB [(2,[[],[],[],[],[],[],[],[],[4,7],[],[],[4,7]])]) (h:=fun hcl hlt=>?_)
 exact Y0
def jQ:PCt
 |[],_,K=>K (.agg (cj 8 214 219))
 |_,_,_=>False
theorem Gx:EPp 68 jQ:=by
 refine Ype fun _ H K h=>?_
 unfold jQ at h
 split at h<;>try exact h.elim
 refine ⟨_,h,?_⟩
 refine Yfv aE tNq Tryz.func68 [.cell 0 152] fun hcl hlt=>?_
 exact Y48
def CE:=eW (aN) xy kr
def Is:=mt 224 6 (aN) xy kr
theorem IP:EEe 224 CE:=by
 unfold CE
 refine Yef fun _ H K h=>?_
 unfold eW at h
 split at h<;>try exact h.elim
 rename_i id x
 obtain ⟨q,s,a,⟨hW,rfl,ha,hl⟩,hK⟩:=h
 refine ⟨_,_,hK,?_⟩
 clear hK
 have hF:=hW.facts
 have hcl0:=hW.closed (t:=s.add (kr a))
 have hid:=glq hW.o
 have hq:=glq hW.bu
 refine Yfw aE (tCq iZ (tCq nL (tCq Hd (tCq Fg (tCq vt (tCq sC (tCq xq tNq))))))) Tryz.func224 [] (by rw [ak];omega) (T:=aB [(3,[[],[],[],[],[1,3]]),(4,[[],[],[],[],[1,3]])]) (h:=fun hcl=>?_)
 have hcl1:=hcl0 hcl
 unfold kr at hl hcl1 ⊢
 rw [← aH,← aH,← aH,← aH,← aH] at hl hcl1 ⊢
 have hl6:=hl
 have hl5:=aQ hl6
 have hl4:=aQ hl5
 have hl3:=aQ hl4
 have hl2:=aQ hl3
 have hl1:=aQ hl2
 refine Tq49 ?_
 refine cW (.inr rfl) (hW.push _) hl1 ?_
 rw [hF.p0]
 refine Tq49 ?_
 refine kQ (ha) ((hW.next _).push _) hl2 ?_
 rw [hF.p1]
 refine Tq49 ?_
 refine kO (c:=aJ) (fun _ _=>trivial) ((hW.next _).push _) hl3 ?_
 rw [hF.p1]
 refine Tq49 ?_
 refine kO (c:=.int .i64) (fun _ _=>trivial) ((hW.next _).push _) hl4 ?_
 rw [hF.p1]
 refine Tq49 ?_
 refine cW (.inr rfl) ((hW.next _).push _) hl5 ?_
 rw [hF.p1]
 refine Tq49 ?_
 refine sO ((hW.next _).push _) hl6 ?_
 rw [hF.p1]
 try simp only [go_sem,aN,lR,fS,inL,ak,bf]
 exact Z16
theorem DO:EEe 71 Is:=lg yZ (fun _ x=>cw x) (fun _=>⟨_,rfl,rfl,rfl⟩) fun wf sz c ok g ew es ec eo eg hone hlt' hag id most r q s l H hW ha hl=>by
 refine ACalls.fW aE (tCq di (tCq IP tNq)) Tryz.func71 [] (by rw [ak];omega) (T:=aB [(2,[[],[],[],[],[],[],[],[],[4,7],[],[],[4,7]])]) (h:=fun hcl hlt=>?_)
 exact Y0
def jR:PCt
 |[],_,K=>K (.agg (cj 6 224 228))
 |_,_,_=>False
theorem Kz:EPp 72 jR:=by
 refine Ype fun _ H K h=>?_
 unfold jR at h
 split at h<;>try exact h.elim
 refine ⟨_,h,?_⟩
 refine Yfv aE tNq Tryz.func72 [.cell 0 164] fun hcl hlt=>?_
 exact Y48
theorem MK:ti Tryz.prog 231=some ⟨.struct [(0,22,false),(1,4,false),(2,4,false),(3,4,false)],4,32,.agg [.slice .nil 1 [],.bool false,.bool false,.bool false]⟩:=krf
theorem Gu:ti Tryz.prog 229=some ⟨.ptr 231,1,8,.nilp⟩:=krf
attribute [go_sem] MK Gu
theorem Dx (l:List UInt8):l.any lF=!kV l:=by
 unfold kV
 rw [List.not_all_eq_any_not]
 congr 1
 funext c
 have e1:(((c.toNat:Int)<32))=(c.toNat<32):=by rw [show ((32:Int))=((32:Nat):Int) from rfl,Int.ofNat_lt]
 have e2:(((c.toNat:Int) > 126))=(126<c.toNat):=by rw [show ((126:Int))=((126:Nat):Int) from rfl,gt_iff_lt,Int.ofNat_lt]
 simp only [lF,Bool.not_not,e1,e2]
def Gs:=uU
theorem NL:EEe 283 Gs:=by
 unfold Gs
 refine Yef fun _ H K h=>?_
 unfold uU at h
 split at h<;>try exact h.elim
 rename_i id x
 obtain ⟨q,s,⟨hW,hl⟩,hK⟩:=h
 refine ⟨_,_,hK,?_⟩
 clear hK
 replace hl:=aQ hl
 rw [bJ] at hl
 have hcl0:=fun t=>hW.closed (t:=t)
 obtain ⟨b,sl,sf,sa⟩:=s
 have hid:=glq hW.o
 have hq:=glq hW.bu
 have hne:=cN hid
 have hneq:=cN hq
 have n1:(id=q)=False:=eq_false hW.ne
 have n2:(q=id)=False:=eq_false fun e=>hW.ne e.symm
 have hcs:=aM hW.o
 have hb0:=hW.bu
 have hi0:=hW.o
 have hnn:=hW.ne
 dsimp only at hcs hb0 hi0 hl
 refine Yfw aE (tCq Lm tNq) Tryz.func283 [] (by rw [ak];omega) (T:=aB []) (h:=fun hcl=>?_)
 have hcl1:=fun t=>hcl0 t hcl
 have hcm:=fun cs=>@bK H id cs hid
 have hA:=fun X Y=>@cl H id q X Y hnn hid
 have hA0:∀ Y,a8 (H.set q Y) id=a8 H id:=fun Y=>by
  exact Y80
 have hB:=fun X=>cZ (X:=X) hnn hb0
 have eh:=fun X Y Z=>@dj H id q X Y Z
 have hcl9:=hcl1 ((⟨b,sl,sf,sa⟩:Enc).add (i5 x))
 simp only [swH,Enc.add,i5,Bool.or_false,lAq,List.length_singleton] at hcl9 ⊢
 simp only [go_sem,byq,hne,hneq,n1,n2,hcs,hcm,hA,hA0,hB,eh,hi0,hb0,zlz,zlk,zmb,true_and,xF]
 (repeat with_reducible refine And.intro (by first|assumption|decide|omega|exact ⟨by omega,by omega⟩|exact ⟨by omega,by omega,by omega⟩|exact ⟨by omega,hb0⟩|exact ⟨by omega,hB _⟩|exact ⟨by omega,by omega,hb0⟩|exact ⟨by omega,by omega,hB _⟩) ?_)
 exact Y66
def FI:=uo
theorem yy:EEe 282 FI:=by
 unfold FI
 refine Yef fun _ H K h=>?_
 unfold uo at h
 split at h<;>try exact h.elim
 rename_i id hi lo
 obtain ⟨q,s,v,⟨hW,hv,rfl,rfl,hl⟩,hK⟩:=h
 refine ⟨_,_,hK,?_⟩
 clear hK
 have iv:=CZ hv
 replace hl:=aQ hl
 rw [bJ] at hl
 have hcl0:=fun t=>hW.closed (t:=t)
 obtain ⟨b,sl,sf,sa⟩:=s
 have hid:=glq hW.o
 have hq:=glq hW.bu
 have hne:=cN hid
 have hneq:=cN hq
 have n1:(id=q)=False:=eq_false hW.ne
 have n2:(q=id)=False:=eq_false fun e=>hW.ne e.symm
 have hcs:=aM hW.o
 have hb0:=hW.bu
 have hi0:=hW.o
 have hnn:=hW.ne
 dsimp only at hcs hb0 hi0 hl
 refine Yfw aE (tCq DF tNq) Tryz.func282 [] (by rw [ak];omega) (T:=aB [(1,[[],[],[],[],[],[],[4,5],[],[],[4,5,6]])]) (h:=fun hcl=>?_)
 have hcl1:=fun t=>hcl0 t hcl
 have hcm:=fun cs=>@bK H id cs hid
 have hA:=fun X Y=>@cl H id q X Y hnn hid
 have hA0:∀ Y,a8 (H.set q Y) id=a8 H id:=fun Y=>by
  exact Y80
 have hB:=fun X=>cZ (X:=X) hnn hb0
 have eh:=fun X Y Z=>@dj H id q X Y Z
 have hcl9:=hcl1 ((⟨b,sl,sf,sa⟩:Enc).add (jK v))
 simp only [swH,Enc.add,jK,Bool.or_false,lAq] at hcl9 ⊢
 simp only [go_sem,byq,hne,hneq,n1,n2,hcs,hcm,hA,hA0,hB,eh,hi0,hb0,zlz,zlk,zmb,true_and,vD,iv,iNq,jI]
 (repeat with_reducible refine And.intro (by first|assumption|decide|omega|exact ⟨by omega,by omega⟩|exact ⟨by omega,by omega,by omega⟩|exact ⟨by omega,hb0⟩|exact ⟨by omega,hB _⟩|exact ⟨by omega,by omega,hb0⟩|exact ⟨by omega,by omega,hB _⟩) ?_)
 exact Y66
def Iv:=uY
theorem pW:EEe 164 Iv:=by
 unfold Iv
 refine Yef fun _ H K h=>?_
 unfold uY at h
 split at h<;>try exact h.elim
 rename_i id n w
 obtain ⟨q,s,⟨hW,hw,hl⟩,hK⟩:=h
 refine ⟨_,_,hK,?_⟩
 clear hK
 have hcl0:=fun t=>hW.closed (t:=t)
 obtain ⟨b,sl,sf,sa⟩:=s
 have hid:=glq hW.o
 have hq:=glq hW.bu
 have hne:=cN hid
 have hneq:=cN hq
 have n1:(id=q)=False:=eq_false hW.ne
 have n2:(q=id)=False:=eq_false fun e=>hW.ne e.symm
 have hcs:=aM hW.o
 have hb0:=hW.bu
 have hi0:=hW.o
 have hnn:=hW.ne
 dsimp only at hcs hb0 hi0 hl
 refine Yfw aE (tCq vy tNq) Tryz.func164 [] (by rw [ak];omega) (T:=aB []) (h:=fun hcl=>?_)
 have hcl1:=fun t=>hcl0 t hcl
 have hcm:=fun cs=>@bK H id cs hid
 have hA:=fun X Y=>@cl H id q X Y hnn hid
 have hA0:∀ Y,a8 (H.set q Y) id=a8 H id:=fun Y=>by
  exact Y80
 have hB:=fun X=>cZ (X:=X) hnn hb0
 have eh:=fun X Y Z=>@dj H id q X Y Z
 have hcl9:=hcl1 ((⟨b,sl,sf,sa⟩:Enc).add (b9 n w))
 have s1:IntKind.u64.wrap (IntKind.i64.wrap 8)=8:=by decide
 have s2:rS .i64 1 8=256:=by decide
 have s3:IntKind.u64.wrap (IntKind.i64.wrap 16)=16:=by decide
 have s4:rS .i64 1 16=65536:=by decide
 simp only [swH,Enc.add,b9,Bool.or_false,lAq] at hcl9 ⊢
 by_cases h0:n<0
 ·have d0:decide (n<0)=true:=dtq h0
  rw [Ir h0,Bool.not_false,Bool.or_true] at hcl9 ⊢
  simp only [go_sem,byq,hne,hneq,n1,n2,hcs,hcm,hA,hA0,hB,eh,hi0,hb0,zlz,zlk,zmb,true_and,nR,d0]
  (repeat with_reducible refine And.intro (by first|assumption|decide|omega|exact ⟨by omega,by omega⟩|exact ⟨by omega,by omega,by omega⟩|exact ⟨by omega,hb0⟩|exact ⟨by omega,hB _⟩|exact ⟨by omega,by omega,hb0⟩|exact ⟨by omega,by omega,hB _⟩) ?_)
  exact Y66
 ·have d0:decide (n<0)=false:=dfq h0
  rcases hw with rfl|rfl
  ·rw [RC h0] at hcl9 ⊢
   cases hd:decide (n ≥ 256)
   all_goals
    rw [hd] at hcl9
    try rw [Bool.or_false] at hcl9
    try rw [Bool.or_true] at hcl9
    simp only [go_sem,byq,hne,hneq,n1,n2,hcs,hcm,hA,hA0,hB,eh,hi0,hb0,zlz,zlk,zmb,true_and,nR,d0,s1,s2,hd,Bool.or_false,Bool.or_true]
    (repeat with_reducible refine And.intro (by first|assumption|decide|omega|exact ⟨by omega,by omega⟩|exact ⟨by omega,by omega,by omega⟩|exact ⟨by omega,hb0⟩|exact ⟨by omega,hB _⟩|exact ⟨by omega,by omega,hb0⟩|exact ⟨by omega,by omega,hB _⟩) ?_)
    simp (disch:=first|exact Zd|omega) [↓zmo,beq,ybc,ybd,ybe,ag,wk,wk2,wk1,wkM,wkL,ay,ybf,hcl9,lAq]
    first|done|exact hcl9|simpa using hcl9
  ·rw [Rb h0] at hcl9 ⊢
   cases hd:decide (n ≥ 65536)
   all_goals
    rw [hd] at hcl9
    try rw [Bool.or_false] at hcl9
    try rw [Bool.or_true] at hcl9
    simp only [go_sem,byq,hne,hneq,n1,n2,hcs,hcm,hA,hA0,hB,eh,hi0,hb0,zlz,zlk,zmb,true_and,nR,d0,s3,s4,hd,Bool.or_false,Bool.or_true]
    (repeat with_reducible refine And.intro (by first|assumption|decide|omega|exact ⟨by omega,by omega⟩|exact ⟨by omega,by omega,by omega⟩|exact ⟨by omega,hb0⟩|exact ⟨by omega,hB _⟩|exact ⟨by omega,by omega,hb0⟩|exact ⟨by omega,by omega,hB _⟩) ?_)
    simp (disch:=first|exact Zd|omega) [↓zmo,beq,ybc,ybd,ybe,ag,wk,wk2,wk1,wkM,wkL,ay,ybf,hcl9,lAq]
    first|done|exact hcl9|simpa using hcl9
def Bo:ECt
 |[.ptr id 0,.int .i64 n,.int .i64 most],H,K=>∃ q s k,(SOn H id q s∧n=((k:Nat):Int)∧(s.add (db k most)).b.length≤dB)∧K (.ret (.tup [])) (swH H id q (s.add (db k most)))
 |_,_,_=>False
theorem lO {id q k:Nat} {H:AHeap} {s:Enc} {m:Int} {K:AEnd→AHeap→Prop} (h:SOn H id q s) (hl:(s.add (db k m)).b.length≤dB) (hK:K (.ret (.tup [])) (swH H id q (s.add (db k m)))) :
 Bo [.ptr id 0,.int .i64 (k:Int),.int .i64 m] H K:=⟨q,s,k,⟨h,rfl,hl⟩,hK⟩
theorem pD:EEe 166 Bo:=by
 refine Yef fun _ H K h=>?_
 unfold Bo at h
 split at h<;>try exact h.elim
 rename_i id n most
 obtain ⟨q,s,k,⟨hW,rfl,hl⟩,hK⟩:=h
 refine ⟨_,_,hK,?_⟩
 clear hK
 replace hl:=aQ hl
 rw [bJ] at hl
 have hcl0:=fun t=>hW.closed (t:=t)
 obtain ⟨b,sl,sf,sa⟩:=s
 have hid:=glq hW.o
 have hq:=glq hW.bu
 have hne:=cN hid
 have hneq:=cN hq
 have n1:(id=q)=False:=eq_false hW.ne
 have n2:(q=id)=False:=eq_false fun e=>hW.ne e.symm
 have hcs:=aM hW.o
 have hb0:=hW.bu
 have hi0:=hW.o
 have hnn:=hW.ne
 dsimp only at hcs hb0 hi0 hl
 refine Yfw aE (tCq vy tNq) Tryz.func166 [] (by rw [ak];omega) (T:=aB []) (h:=fun hcl=>?_)
 have hcl1:=fun t=>hcl0 t hcl
 have hcm:=fun cs=>@bK H id cs hid
 have hA:=fun X Y=>@cl H id q X Y hnn hid
 have hA0:∀ Y,a8 (H.set q Y) id=a8 H id:=fun Y=>by
  exact Y80
 have hB:=fun X=>cZ (X:=X) hnn hb0
 have eh:=fun X Y Z=>@dj H id q X Y Z
 have hcl9:=hcl1 ((⟨b,sl,sf,sa⟩:Enc).add (db k most))
 simp only [swH,Enc.add,db,Bool.or_false,lAq] at hcl9 ⊢
 cases hd:decide ((k:Int) > most)
 all_goals
  rw [hd] at hcl9
  try rw [Bool.or_false] at hcl9
  try rw [Bool.or_true] at hcl9
  simp only [go_sem,byq,hne,hneq,n1,n2,hcs,hcm,hA,hA0,hB,eh,hi0,hb0,zlz,zlk,zmb,true_and,nR,hd,Bool.or_false,Bool.or_true]
  (repeat with_reducible refine And.intro (by first|assumption|decide|omega|exact ⟨by omega,by omega⟩|exact ⟨by omega,by omega,by omega⟩|exact ⟨by omega,hb0⟩|exact ⟨by omega,hB _⟩|exact ⟨by omega,by omega,hb0⟩|exact ⟨by omega,by omega,hB _⟩) ?_)
  simp (disch:=first|exact Zd|omega) [↓zmo,beq,ybc,ybd,ybe,ag,wk,wk2,wk1,wkM,wkL,ay,ybf,hcl9,lAq]
  first|done|exact hcl9|simpa using hcl9
def Jr:=vo
theorem tt:EEe 280 Jr:=by
 unfold Jr
 refine Yef fun _ H K h=>?_
 unfold vo at h
 split at h<;>try exact h.elim
 rename_i id x most
 obtain ⟨q,s,⟨hW,hx,hl⟩,hK⟩:=h
 refine ⟨_,_,hK,?_⟩
 clear hK
 replace hl:=aQ hl
 rw [bJ] at hl hx
 have hcl0:=fun t=>hW.closed (t:=t)
 obtain ⟨b,sl,sf,sa⟩:=s
 have hid:=glq hW.o
 have hq:=glq hW.bu
 have hne:=cN hid
 have hneq:=cN hq
 have n1:(id=q)=False:=eq_false hW.ne
 have n2:(q=id)=False:=eq_false fun e=>hW.ne e.symm
 have hcs:=aM hW.o
 have hb0:=hW.bu
 have hi0:=hW.o
 have hnn:=hW.ne
 dsimp only at hcs hb0 hi0 hl
 refine Yfw aE (tCq Eb (tCq Jf tNq)) Tryz.func280 [] (by rw [ak];omega) (T:=aB []) (h:=fun hcl=>?_)
 have hcl1:=fun t=>hcl0 t hcl
 have hcm:=fun cs=>@bK H id cs hid
 have hA:=fun X Y=>@cl H id q X Y hnn hid
 have hA0:∀ Y,a8 (H.set q Y) id=a8 H id:=fun Y=>by
  exact Y80
 have hB:=fun X=>cZ (X:=X) hnn hb0
 have eh:=fun X Y Z=>@dj H id q X Y Z
 have hcl9:=hcl1 ((⟨b,sl,sf,sa⟩:Enc).add (il x most))
 simp only [swH,Enc.add,il,Bool.or_false,lAq,Dx] at hcl9 ⊢
 cases hd:decide ((x.length:Int) > most)<;>cases hp:kV x
 all_goals
  rw [hd,hp] at hcl9
  try rw [Bool.or_false] at hcl9
  try rw [Bool.or_true] at hcl9
  simp only [go_sem,byq,hne,hneq,n1,n2,hcs,hcm,hA,hA0,hB,eh,hi0,hb0,zlz,zlk,zmb,true_and,uX,xr,hd,hp,Bool.or_false,Bool.or_true,Bool.not_true,Bool.not_false]
  (repeat with_reducible refine And.intro (by first|assumption|decide|omega|exact ⟨by omega,by omega⟩|exact ⟨by omega,by omega,by omega⟩|exact ⟨by omega,hb0⟩|exact ⟨by omega,hB _⟩|exact ⟨by omega,by omega,hb0⟩|exact ⟨by omega,by omega,hB _⟩) ?_)
  simp (disch:=first|exact Zd|omega) [↓zmo,beq,ybc,ybd,ybe,ag,wk,wk2,wk1,wkM,wkL,ay,ybf,hcl9,lAq]
  first|done|exact hcl9|simpa using hcl9
abbrev bS (x:SField):List AV:=(aG x).cells
abbrev bT (x:SHeader):List AV:=(az x).cells
abbrev bX (x:SCase):List AV:=(bb x).cells
abbrev bP (x:SState):List AV:=(aA x).cells
abbrev bR (x:SParam):List AV:=(aL x).cells
abbrev bV (x:SPrim):List AV:=(aT x).cells
abbrev bW (x:SKey):List AV:=(ba x).cells
abbrev bY (x:SStage):List AV:=(aO x).cells
abbrev bU (x:SRef):List AV:=(a9 x).cells
abbrev bO (x:SGrant):List AV:=(aJ x).cells
abbrev bL (x:SAction):List AV:=(ap x).cells
abbrev bN (x:STable):List AV:=(ax x).cells
abbrev bM (x:SRole):List AV:=(aN x).cells
theorem gF {α:Type} {g:α→Enc} (h1:∀ x,1≤(g x).b.length) {l:List α} {s:Enc} (hl:(s.add (b5 g l)).b.length≤dB):l.length≤100000000000000:=by
 have h2:=xz h1 l
 rw [dx,bJ] at hl
 omega
theorem gW {α:Type} {g:α→Enc} {m:Int} {l:List α} {s:Enc}:s.add (bn g m l)=(s.add (db l.length m)).add (b5 g l):=by rw [aH];rfl
theorem jj {n:Nat} {x:AV} (h:∀ n,x.lt n):ltL n x.cells:=ltL_iff.2 fun j hj=>AV.lt_cells (h n) j hj
theorem SOn.push3 {H:AHeap} {id q:Nat} {s:Enc} (h:SOn H id q s) (x y z:AObj):SOn (((H.push x).push y).push z) id q s:=((h.push x).push y).push z
def xJ:ECt
 |[.ptr id 0,.slice .any 1 xs,.int .i64 most],H,K=>∃ q s l,(SOn H id q s∧xs=inL l∧(s.add (bn jH most l)).b.length≤dB)∧K (.ret (.tup [])) (swH H id q (s.add (bn jH most l)))
 |_,_,_=>False
theorem Bw {id q:Nat} {H:AHeap} {s:Enc} {l:List Int} {m:Int} {K:AEnd→AHeap→Prop} (h:SOn H id q s) (hl:(s.add (bn jH m l)).b.length≤dB) (hK:K (.ret (.tup [])) (swH H id q (s.add (bn jH m l)))) :
 xJ [.ptr id 0,.slice .any 1 (l.map (.int .i64)),.int .i64 m] H K:=⟨q,s,l,⟨h,rfl,hl⟩,hK⟩
theorem u2:EEe 281 xJ:=by
 refine Yef fun _ H K h=>?_
 unfold xJ at h
 split at h<;>try exact h.elim
 rename_i id xs most
 obtain ⟨q,s,l,⟨hW,rfl,hl⟩,hK⟩:=h
 refine ⟨_,_,hK,?_⟩
 clear hK
 have hF:=hW.facts
 have hcl0:=fun t=>hW.closed (t:=t)
 have hid:=glq hW.o
 have hq:=glq hW.bu
 refine Yfw aE (tCq pD (tCq pW tNq)) Tryz.func281 [] (by rw [ak];omega) (T:=aB []) (h:=fun hcl=>?_)
 have hcl1:=fun t=>hcl0 t hcl
 have hE:s.add (bn jH most l)=(s.add (db l.length most)).add (b5 jH l):=by rw [aH];rfl
 rw [hE] at hl ⊢
 have hN:=gF zr hl
 simp only [go_sem,inL,ybb]
 refine lO hW (aQ hl) ?_
 simp only [go_sem,inL,ybb,ak]
 refine aC (A:=Nat) (fun k=>[(0,.ptr id 0),(13,.slice .any 1 (l.map (.int .i64))),(14,.int .i64 (l.length:Int)),(15,.int .i64 (k:Int))]) (fun k=>swH H id q ((s.add (db l.length most)).add (b5 jH (l.take k)))) (fun k=>k≤l.length) (fun k=>l.length - k) 0 (by omega) ?_ fun k hk=>?_
 ·rw [yar,b5,cU]
  refine eNt (hcl1 _) ?_ ?_ (a:=by simp only [zkq,zkv,zle,ak];omega)
  ·simp [ltF,zle,ak,znn,znf,aa fun _=>of_eq_true znf]
   try omega
  ·exact Y13
 refine Tq15 ?_
 refine au (fun hc=>?_) (fun hc=>?_)
 ·have hk':k<l.length:=sHc
  obtain ⟨x,hx⟩:∃ x,x=l[k]:=⟨_,rfl⟩
  have hg:=cG (f:=.int .i64) (l:=l) (k:=k) (x:=x) (by rw [gQq hk',hx])
  have e5:=Yk5 k
  obtain ⟨es,hlk⟩:=dh (g:=jH) hk' hx hl
  simp only [go_sem,iNq,ybb,hg,ak]
  refine ⟨by omega,?_⟩
  refine cW (.inr rfl) (hW.next _) hlk ?_
  rw [hF.pp,show b9 x 2=jH x from rfl,es]
  simp only [go_sem,e5]
  refine ⟨k+1,by omega,by omega,eNt (hcl1 _) ?_ ?_ (a:=by simp only [zkq,zkv,zle,ak];omega)⟩
  ·simp [ltF,zle,ak,znn,znf,aa fun _=>of_eq_true znf]
   try omega
  ·exact Y13
 ·exact Y14
def Lw:=eW ap m9 eJ
def G5:=eW ax pP gB
def G2:=eW aN xy kr
def F4:=eW eE OkSch fC
theorem MZ:EEe 167 Lw:=by
 unfold Lw
 refine Yef fun _ H K h=>?_
 unfold eW at h
 split at h<;>try exact h.elim
 rename_i id x
 obtain ⟨q,s,a,⟨hW,rfl,ha,hl⟩,hK⟩:=h
 refine ⟨_,_,hK,?_⟩
 clear hK
 have hF:=hW.facts
 have hcl0:=fun t=>hW.closed (t:=t)
 have hid:=glq hW.o
 have hq:=glq hW.bu
 refine Yfw aE (tCq pD (tCq pW (tCq tt (tCq yy tNq)))) Tryz.func167 [] (by rw [ak];omega) (T:=aB []) (h:=fun hcl=>?_)
 have hcl1:=fun t=>hcl0 t hcl
 unfold eJ at hl ⊢
 rw [← aH,← aH,← aH,← aH] at hl ⊢
 have hl3:=aQ hl
 have hl2:=aQ hl3
 have hl1:=aQ hl2
 have hl0:=aQ hl1
 refine Tq5 ?_
 refine cW (.inr rfl) (hW.push _) hl0 ?_
 rw [hF.p0]
 refine Tq5 ?_
 refine kQ (ha.1) ((hW.next _).push _) hl1 ?_
 rw [hF.p1]
 have hE12:(((((s).add (b9 a.id 2))).add (il a.name 24))).add (bn js 4 a.params)=((((((s).add (b9 a.id 2))).add (il a.name 24))).add (db a.params.length 4)).add (b5 js a.params):=gW
 have hT12:=hl2
 rw [hE12] at hT12
 have hN12:=gF w9 hT12
 refine Tq5 ?_
 refine lO ((hW.next _).push _) (aQ hT12) ?_
 rw [hF.p1]
 refine Tq5 ?_
 refine aC (A:=Nat) (fun k=>[(0,.ptr id 0),(3,.ptr H.nx 0),(22,.slice .any 2 (a.params.map (aL))),(23,.int .i64 (a.params.length:Int)),(24,.int .i64 (k:Int))]) (fun k=>(swH H id q (((((((s).add (b9 a.id 2))).add (il a.name 24))).add (db a.params.length 4)).add (b5 js (a.params.take k)))).push (.cells (bL a))) (fun k=>k≤a.params.length) (fun k=>a.params.length - k) 0 (by omega) ?_ fun k1 hk1=>?_
 ·rw [yar,b5,cU]
  refine eNt (ah (hcl1 _) (jj (x:=ap a) fun _=>bI a)) ?_ ?_ (a:=by simp only [zkq,zkv,zle,ak];omega)
  ·exact Y16
  ·exact Y13
 refine Tq15 ?_
 refine au (fun hc=>?_) (fun hc=>?_)
 ·have hk1':k1<a.params.length:=sHc
  obtain ⟨x1,hx1⟩:∃ x1,x1=a.params[k1]:=⟨_,rfl⟩
  have hg1:=cG (f:=aL) (l:=a.params) (k:=k1) (x:=x1) (by rw [gQq hk1',hx1])
  have e15:IntKind.i64.wrap ((k1:Int)+1)=((k1+1:Nat):Int):=by rw [wrap_i64]<;>omega
  have ho1:=(ha.2.1) x1 (by rw [hx1];exact gMq hk1')
  obtain ⟨es1,hlk1⟩:=dh (g:=js) hk1' hx1 hT12
  simp only [go_sem,ap,inL,boL,vc,bS,bT,bX,bP,bR,bV,bW,bY,bU,bO,bL,bN,bM,AV.cells,bb,aG,aJ,az,ba,aL,aT,a9,aN,aO,aA,ax,ybb,zle,iNq,ybb,hg1,aL,ak]
  refine ⟨by omega,?_⟩
  rw [show js x1=((il x1.name 24).add (b9 x1.bits 1)) from rfl] at es1 hlk1
  rw [← aH] at hlk1
  rw [← aH] at es1
  have hm10:=aQ hlk1
  refine Tq40 ?_
  refine kQ (ho1) ((hW.next _).push2 _ _) hm10 ?_
  rw [hF.p2]
  refine Tq40 ?_
  refine cW (.inl rfl) ((hW.next _).push2 _ _) hlk1 ?_
  rw [hF.p2]
  rw [es1]
  refine Tq66 ?_
  refine ⟨k1+1,by omega,by omega,eNt (ah (hcl1 _) (jj (x:=ap a) fun _=>bI a)) ?_ ?_ (a:=by simp only [zkq,zkv,zle,ak];omega)⟩
  ·exact Y18
  ·exact Y13
 ·have hk1':k1=a.params.length:=sHc
  subst hk1'
  rw [List.take_length]
  rw [← hE12]
  have hE13:(((((((s).add (b9 a.id 2))).add (il a.name 24))).add (bn js 4 a.params))).add (bn mE 12 a.body)=((((((((s).add (b9 a.id 2))).add (il a.name 24))).add (bn js 4 a.params))).add (db a.body.length 12)).add (b5 mE a.body):=gW
  have hT13:=hl3
  rw [hE13] at hT13
  have hN13:=gF yL hT13
  refine Tq5 ?_
  refine lO ((hW.next _).push _) (aQ hT13) ?_
  rw [hF.p1]
  refine Tq5 ?_
  refine aC (A:=Nat) (fun k=>[(0,.ptr id 0),(3,.ptr H.nx 0),(43,.slice .any 6 (a.body.map (aT))),(44,.int .i64 (a.body.length:Int)),(45,.int .i64 (k:Int))]) (fun k=>(swH H id q (((((((((s).add (b9 a.id 2))).add (il a.name 24))).add (bn js 4 a.params))).add (db a.body.length 12)).add (b5 mE (a.body.take k)))).push (.cells (bL a))) (fun k=>k≤a.body.length) (fun k=>a.body.length - k) 0 (by omega) ?_ fun k1 hk1=>?_
  ·rw [yar,b5,cU]
   refine eNt (ah (hcl1 _) (jj (x:=ap a) fun _=>bI a)) ?_ ?_ (a:=by simp only [zkq,zkv,zle,ak];omega)
   ·exact Y16
   ·exact Y13
  refine Tq15 ?_
  refine au (fun hc=>?_) (fun hc=>?_)
  ·have hk1':k1<a.body.length:=sHc
   obtain ⟨x1,hx1⟩:∃ x1,x1=a.body[k1]:=⟨_,rfl⟩
   have hg1:=cG (f:=aT) (l:=a.body) (k:=k1) (x:=x1) (by rw [gQq hk1',hx1])
   have e15:IntKind.i64.wrap ((k1:Int)+1)=((k1+1:Nat):Int):=by rw [wrap_i64]<;>omega
   have ho1:=(ha.2.2.1) x1 (by rw [hx1];exact gMq hk1')
   obtain ⟨es1,hlk1⟩:=dh (g:=mE) hk1' hx1 hT13
   simp only [go_sem,ap,inL,boL,vc,bS,bT,bX,bP,bR,bV,bW,bY,bU,bO,bL,bN,bM,AV.cells,bb,aG,aJ,az,ba,aL,aT,a9,aN,aO,aA,ax,ybb,zle,iNq,ybb,hg1,aT,vc,ak]
   refine ⟨by omega,?_⟩
   rw [show mE x1=((b9 x1.op 1).add ((b9 x1.dst 2).add ((b9 x1.kind 1).add ((b9 x1.n 2).add (jK x1.value))))) from rfl] at es1 hlk1
   rw [← aH,← aH,← aH,← aH] at hlk1
   rw [← aH,← aH,← aH,← aH] at es1
   have hm13:=aQ hlk1
   have hm12:=aQ hm13
   have hm11:=aQ hm12
   have hm10:=aQ hm11
   refine Tq13 ?_
   refine cW (.inl rfl) ((hW.next _).push2 _ _) hm10 ?_
   rw [hF.p2]
   refine Tq13 ?_
   refine cW (.inr rfl) ((hW.next _).push2 _ _) hm11 ?_
   rw [hF.p2]
   refine Tq13 ?_
   refine cW (.inl rfl) ((hW.next _).push2 _ _) hm12 ?_
   rw [hF.p2]
   refine Tq13 ?_
   refine cW (.inr rfl) ((hW.next _).push2 _ _) hm13 ?_
   rw [hF.p2]
   refine Tq13 ?_
   refine sX (ho1) ((hW.next _).push2 _ _) hlk1 ?_
   rw [hF.p2]
   rw [es1]
   refine Tq66 ?_
   refine ⟨k1+1,by omega,by omega,eNt (ah (hcl1 _) (jj (x:=ap a) fun _=>bI a)) ?_ ?_ (a:=by simp only [zkq,zkv,zle,ak];omega)⟩
   ·exact Y18
   ·exact Y13
  ·have hk1':k1=a.body.length:=sHc
   subst hk1'
   rw [List.take_length]
   rw [← hE13]
   refine Tq5 ?_
   refine kQ (ha.2.2.2) ((hW.next _).push _) hl ?_
   rw [hF.p1]
   refine Tq5 ?_
   exact Y20
theorem Nt:EEe 168 G5:=by
 unfold G5
 refine Yef fun _ H K h=>?_
 unfold eW at h
 split at h<;>try exact h.elim
 rename_i id x
 obtain ⟨q,s,a,⟨hW,rfl,ha,hl⟩,hK⟩:=h
 refine ⟨_,_,hK,?_⟩
 clear hK
 have hF:=hW.facts
 have hcl0:=fun t=>hW.closed (t:=t)
 have hid:=glq hW.o
 have hq:=glq hW.bu
 refine Yfw aE (tCq pD (tCq pW (tCq u2 (tCq tt (tCq yy tNq))))) Tryz.func168 [] (by rw [ak];omega) (T:=aB []) (h:=fun hcl=>?_)
 have hcl1:=fun t=>hcl0 t hcl
 unfold gB at hl ⊢
 rw [← aH,← aH,← aH,← aH,← aH,← aH,← aH] at hl ⊢
 have hl6:=aQ hl
 have hl5:=aQ hl6
 have hl4:=aQ hl5
 have hl3:=aQ hl4
 have hl2:=aQ hl3
 have hl1:=aQ hl2
 have hl0:=aQ hl1
 refine Tq2 ?_
 refine cW (.inr rfl) (hW.push _) hl0 ?_
 rw [hF.p0]
 refine Tq2 ?_
 refine kQ (ha.1) ((hW.next _).push _) hl1 ?_
 rw [hF.p1]
 have hE12:(((((s).add (b9 a.id 2))).add (il a.name 24))).add (bn oD 4 a.keys)=((((((s).add (b9 a.id 2))).add (il a.name 24))).add (db a.keys.length 4)).add (b5 oD a.keys):=gW
 have hT12:=hl2
 rw [hE12] at hT12
 have hN12:=gF B7 hT12
 refine Tq2 ?_
 refine lO ((hW.next _).push _) (aQ hT12) ?_
 rw [hF.p1]
 refine Tq2 ?_
 refine aC (A:=Nat) (fun k=>[(0,.ptr id 0),(3,.ptr H.nx 0),(22,.slice .any 3 (a.keys.map (ba))),(23,.int .i64 (a.keys.length:Int)),(24,.int .i64 (k:Int))]) (fun k=>(swH H id q (((((((s).add (b9 a.id 2))).add (il a.name 24))).add (db a.keys.length 4)).add (b5 oD (a.keys.take k)))).push (.cells (bN a))) (fun k=>k≤a.keys.length) (fun k=>a.keys.length - k) 0 (by omega) ?_ fun k1 hk1=>?_
 ·rw [yar,b5,cU]
  refine eNt (ah (hcl1 _) (jj (x:=ax a) fun _=>b7 a)) ?_ ?_ (a:=by simp only [zkq,zkv,zle,ak];omega)
  ·exact Y16
  ·exact Y13
 refine Tq15 ?_
 refine au (fun hc=>?_) (fun hc=>?_)
 ·have hk1':k1<a.keys.length:=sHc
  obtain ⟨x1,hx1⟩:∃ x1,x1=a.keys[k1]:=⟨_,rfl⟩
  have hg1:=cG (f:=ba) (l:=a.keys) (k:=k1) (x:=x1) (by rw [gQq hk1',hx1])
  have e15:IntKind.i64.wrap ((k1:Int)+1)=((k1+1:Nat):Int):=by rw [wrap_i64]<;>omega
  have ho1:=(ha.2.1) x1 (by rw [hx1];exact gMq hk1')
  obtain ⟨es1,hlk1⟩:=dh (g:=oD) hk1' hx1 hT12
  simp only [go_sem,ax,inL,boL,vc,bS,bT,bX,bP,bR,bV,bW,bY,bU,bO,bL,bN,bM,AV.cells,ap,bb,aG,aJ,az,ba,aL,aT,a9,aN,aO,aA,ybb,zle,iNq,ybb,hg1,ba,ak]
  refine ⟨by omega,?_⟩
  rw [show oD x1=((il x1.name 24).add ((b9 x1.field 2).add (b9 x1.kind 1))) from rfl] at es1 hlk1
  rw [← aH,← aH] at hlk1
  rw [← aH,← aH] at es1
  have hm11:=aQ hlk1
  have hm10:=aQ hm11
  refine Tq27 ?_
  refine kQ (ho1) ((hW.next _).push2 _ _) hm10 ?_
  rw [hF.p2]
  refine Tq27 ?_
  refine cW (.inr rfl) ((hW.next _).push2 _ _) hm11 ?_
  rw [hF.p2]
  refine Tq27 ?_
  refine cW (.inl rfl) ((hW.next _).push2 _ _) hlk1 ?_
  rw [hF.p2]
  rw [es1]
  refine Tq66 ?_
  refine ⟨k1+1,by omega,by omega,eNt (ah (hcl1 _) (jj (x:=ax a) fun _=>b7 a)) ?_ ?_ (a:=by simp only [zkq,zkv,zle,ak];omega)⟩
  ·exact Y18
  ·exact Y13
 ·have hk1':k1=a.keys.length:=sHc
  subst hk1'
  rw [List.take_length]
  rw [← hE12]
  refine Tq2 ?_
  refine Bw ((hW.next _).push _) hl3 ?_
  rw [hF.p1]
  refine Tq2 ?_
  refine cW (.inr rfl) ((hW.next _).push _) hl4 ?_
  rw [hF.p1]
  have hE15:(((((((((((s).add (b9 a.id 2))).add (il a.name 24))).add (bn oD 4 a.keys))).add (bn jH 12 a.actions))).add (b9 a.dflt 2))).add (bn jK 4 a.dargs)=((((((((((((s).add (b9 a.id 2))).add (il a.name 24))).add (bn oD 4 a.keys))).add (bn jH 12 a.actions))).add (b9 a.dflt 2))).add (db a.dargs.length 4)).add (b5 jK a.dargs):=gW
  have hT15:=hl5
  rw [hE15] at hT15
  have hN15:=gF y0 hT15
  refine Tq2 ?_
  refine lO ((hW.next _).push _) (aQ hT15) ?_
  rw [hF.p1]
  refine Tq2 ?_
  refine aC (A:=Nat) (fun k=>[(0,.ptr id 0),(3,.ptr H.nx 0),(55,.slice .any 2 (a.dargs.map (vv))),(56,.int .i64 (a.dargs.length:Int)),(57,.int .i64 (k:Int))]) (fun k=>(swH H id q (((((((((((((s).add (b9 a.id 2))).add (il a.name 24))).add (bn oD 4 a.keys))).add (bn jH 12 a.actions))).add (b9 a.dflt 2))).add (db a.dargs.length 4)).add (b5 jK (a.dargs.take k)))).push (.cells (bN a))) (fun k=>k≤a.dargs.length) (fun k=>a.dargs.length - k) 0 (by omega) ?_ fun k1 hk1=>?_
  ·rw [yar,b5,cU]
   refine eNt (ah (hcl1 _) (jj (x:=ax a) fun _=>b7 a)) ?_ ?_ (a:=by simp only [zkq,zkv,zle,ak];omega)
   ·exact Y16
   ·exact Y13
  refine Tq15 ?_
  refine au (fun hc=>?_) (fun hc=>?_)
  ·have hk1':k1<a.dargs.length:=sHc
   obtain ⟨x1,hx1⟩:∃ x1,x1=a.dargs[k1]:=⟨_,rfl⟩
   have hg1:=cG (f:=vv) (l:=a.dargs) (k:=k1) (x:=x1) (by rw [gQq hk1',hx1])
   have e15:IntKind.i64.wrap ((k1:Int)+1)=((k1+1:Nat):Int):=by rw [wrap_i64]<;>omega
   have ho1:=(ha.2.2.1) x1 (by rw [hx1];exact gMq hk1')
   obtain ⟨es1,hlk1⟩:=dh (g:=jK) hk1' hx1 hT15
   simp only [go_sem,ax,inL,boL,vc,bS,bT,bX,bP,bR,bV,bW,bY,bU,bO,bL,bN,bM,AV.cells,ap,bb,aG,aJ,az,ba,aL,aT,a9,aN,aO,aA,ybb,zle,iNq,ybb,hg1,vv,ak]
   refine ⟨by omega,?_⟩
   try skip
   refine sX (ho1) ((hW.next _).push2 _ _) hlk1 ?_
   rw [hF.p2]
   rw [es1]
   refine Tq66 ?_
   refine ⟨k1+1,by omega,by omega,eNt (ah (hcl1 _) (jj (x:=ax a) fun _=>b7 a)) ?_ ?_ (a:=by simp only [zkq,zkv,zle,ak];omega)⟩
   ·exact Y18
   ·exact Y13
  ·have hk1':k1=a.dargs.length:=sHc
   subst hk1'
   rw [List.take_length]
   rw [← hE15]
   refine Tq2 ?_
   refine cW (.inr rfl) ((hW.next _).push _) hl6 ?_
   rw [hF.p1]
   refine Tq2 ?_
   refine kQ (ha.2.2.2) ((hW.next _).push _) hl ?_
   rw [hF.p1]
   refine Tq2 ?_
   exact Y20
abbrev hG (x:Sch):List AV:=(eE x).cells
theorem lH {n:Nat} (x:Sch):(eE x).lt n:=sF x
theorem Nn:EEe 169 G2:=by
 unfold G2
 refine Yef fun _ H K h=>?_
 unfold eW at h
 split at h<;>try exact h.elim
 rename_i id x
 obtain ⟨q,s,a,⟨hW,rfl,ha,hl⟩,hK⟩:=h
 refine ⟨_,_,hK,?_⟩
 clear hK
 have hF:=hW.facts
 have hcl0:=fun t=>hW.closed (t:=t)
 have hid:=glq hW.o
 have hq:=glq hW.bu
 refine Yfw aE (tCq pD (tCq pW (tCq u2 (tCq NL (tCq tt tNq))))) Tryz.func169 [] (by rw [ak];omega) (T:=aB []) (h:=fun hcl=>?_)
 have hcl1:=fun t=>hcl0 t hcl
 unfold kr at hl ⊢
 rw [← aH,← aH,← aH,← aH,← aH] at hl ⊢
 have hl4:=aQ hl
 have hl3:=aQ hl4
 have hl2:=aQ hl3
 have hl1:=aQ hl2
 have hl0:=aQ hl1
 refine Tq6 ?_
 refine cW (.inr rfl) (hW.push _) hl0 ?_
 rw [hF.p0]
 refine Tq6 ?_
 refine kQ (ha) ((hW.next _).push _) hl1 ?_
 rw [hF.p1]
 have hE12:(((((s).add (b9 a.id 2))).add (il a.name 24))).add (bn jp 8 a.grants)=((((((s).add (b9 a.id 2))).add (il a.name 24))).add (db a.grants.length 8)).add (b5 jp a.grants):=gW
 have hT12:=hl2
 rw [hE12] at hT12
 have hN12:=gF wY hT12
 refine Tq6 ?_
 refine lO ((hW.next _).push _) (aQ hT12) ?_
 rw [hF.p1]
 refine Tq6 ?_
 refine aC (A:=Nat) (fun k=>[(0,.ptr id 0),(3,.ptr H.nx 0),(22,.slice .any 4 (a.grants.map (aJ))),(23,.int .i64 (a.grants.length:Int)),(24,.int .i64 (k:Int))]) (fun k=>(swH H id q (((((((s).add (b9 a.id 2))).add (il a.name 24))).add (db a.grants.length 8)).add (b5 jp (a.grants.take k)))).push (.cells (bM a))) (fun k=>k≤a.grants.length) (fun k=>a.grants.length - k) 0 (by omega) ?_ fun k1 hk1=>?_
 ·rw [yar,b5,cU]
  refine eNt (ah (hcl1 _) (jj (x:=aN a) fun _=>cw a)) ?_ ?_ (a:=by simp only [zkq,zkv,zle,ak];omega)
  ·exact Y16
  ·exact Y13
 refine Tq15 ?_
 refine au (fun hc=>?_) (fun hc=>?_)
 ·have hk1':k1<a.grants.length:=sHc
  obtain ⟨x1,hx1⟩:∃ x1,x1=a.grants[k1]:=⟨_,rfl⟩
  have hg1:=cG (f:=aJ) (l:=a.grants) (k:=k1) (x:=x1) (by rw [gQq hk1',hx1])
  have e15:IntKind.i64.wrap ((k1:Int)+1)=((k1+1:Nat):Int):=by rw [wrap_i64]<;>omega
  obtain ⟨es1,hlk1⟩:=dh (g:=jp) hk1' hx1 hT12
  simp only [go_sem,aN,inL,boL,vc,bS,bT,bX,bP,bR,bV,bW,bY,bU,bO,bL,bN,bM,AV.cells,ap,bb,aG,aJ,az,ba,aL,aT,a9,aO,aA,ax,ybb,zle,iNq,ybb,hg1,aJ,ak]
  refine ⟨by omega,?_⟩
  rw [show jp x1=((b9 x1.table 2).add ((i5 x1.read).add ((i5 x1.write).add (bn i5 4 x1.keys)))) from rfl] at es1 hlk1
  rw [← aH,← aH,← aH] at hlk1
  rw [← aH,← aH,← aH] at es1
  have hm12:=aQ hlk1
  have hm11:=aQ hm12
  have hm10:=aQ hm11
  refine Tq14 ?_
  refine cW (.inr rfl) ((hW.next _).push2 _ _) hm10 ?_
  rw [hF.p2]
  refine Tq14 ?_
  refine sO ((hW.next _).push2 _ _) hm11 ?_
  rw [hF.p2]
  refine Tq14 ?_
  refine sO ((hW.next _).push2 _ _) hm12 ?_
  rw [hF.p2]
  have hE23:((((((((((((((s).add (b9 a.id 2))).add (il a.name 24))).add (db a.grants.length 8)).add (b5 jp (a.grants.take k1)))).add (b9 x1.table 2))).add (i5 x1.read))).add (i5 x1.write))).add (bn i5 4 x1.keys)=(((((((((((((((s).add (b9 a.id 2))).add (il a.name 24))).add (db a.grants.length 8)).add (b5 jp (a.grants.take k1)))).add (b9 x1.table 2))).add (i5 x1.read))).add (i5 x1.write))).add (db x1.keys.length 4)).add (b5 i5 x1.keys):=gW
  have hT23:=hlk1
  rw [hE23] at hT23
  have hN23:=gF z6 hT23
  refine Tq14 ?_
  refine lO ((hW.next _).push2 _ _) (aQ hT23) ?_
  rw [hF.p2]
  refine Tq14 ?_
  refine aC (A:=Nat) (fun k=>[(0,.ptr id 0),(3,.ptr H.nx 0),(22,.slice .any 4 (a.grants.map (aJ))),(23,.int .i64 (a.grants.length:Int)),(24,.int .i64 (k1:Int)),(46,.slice .any 1 (x1.keys.map (.bool))),(47,.int .i64 (x1.keys.length:Int)),(48,.int .i64 (k:Int))]) (fun k=>((swH H id q ((((((((((((((((s).add (b9 a.id 2))).add (il a.name 24))).add (db a.grants.length 8)).add (b5 jp (a.grants.take k1)))).add (b9 x1.table 2))).add (i5 x1.read))).add (i5 x1.write))).add (db x1.keys.length 4)).add (b5 i5 (x1.keys.take k)))).push (.cells (bM a))).push (.cells (bO x1))) (fun k=>k≤x1.keys.length) (fun k=>x1.keys.length - k) 0 (by omega) ?_ fun k2 hk2=>?_
  ·rw [yar,b5,cU]
   refine eNt (ah (ah (hcl1 _) (jj (x:=aN a) fun _=>cw a)) (jj (x:=aJ x1) fun _=>cb x1)) ?_ ?_ (a:=by simp only [zkq,zkv,zle,ak];omega)
   ·exact Y16
   ·exact Y13
  refine Tq15 ?_
  refine au (fun hc=>?_) (fun hc=>?_)
  ·have hk2':k2<x1.keys.length:=sHc
   obtain ⟨x2,hx2⟩:∃ x2,x2=x1.keys[k2]:=⟨_,rfl⟩
   have hg2:=cG (f:=.bool) (l:=x1.keys) (k:=k2) (x:=x2) (by rw [gQq hk2',hx2])
   have e25:IntKind.i64.wrap ((k2:Int)+1)=((k2+1:Nat):Int):=by rw [wrap_i64]<;>omega
   obtain ⟨es2,hlk2⟩:=dh (g:=i5) hk2' hx2 hT23
   simp only [go_sem,aN,inL,boL,vc,bS,bT,bX,bP,bR,bV,bW,bY,bU,bO,bL,bN,bM,AV.cells,ap,bb,aG,aJ,az,ba,aL,aT,a9,aO,aA,ax,ybb,zle,iNq,ybb,hg1,aJ,iNq,ybb,hg2,ak]
   refine ⟨by omega,?_⟩
   try skip
   refine sO ((hW.next _).push2 _ _) hlk2 ?_
   rw [hF.p2]
   rw [es2]
   simp only [go_sem,e25]
   refine ⟨k2+1,by omega,by omega,eNt (ah (ah (hcl1 _) (jj (x:=aN a) fun _=>cw a)) (jj (x:=aJ x1) fun _=>cb x1)) ?_ ?_ (a:=by simp only [zkq,zkv,zle,ak];omega)⟩
   ·exact Y18
   ·exact Y13
  ·have hk2':k2=x1.keys.length:=sHc
   subst hk2'
   rw [List.take_length]
   rw [← hE23]
   rw [es1]
   refine Tq66 ?_
   refine ⟨k1+1,by omega,by omega,eNt (ah (hcl1 _) (jj (x:=aN a) fun _=>cw a)) ?_ ?_ (a:=by simp only [zkq,zkv,zle,ak];omega)⟩
   ·exact Y18
   ·exact Y13
 ·have hk1':k1=a.grants.length:=sHc
  subst hk1'
  rw [List.take_length]
  rw [← hE12]
  refine Tq6 ?_
  refine Bw ((hW.next _).push _) hl3 ?_
  rw [hF.p1]
  refine Tq6 ?_
  refine cW (.inr rfl) ((hW.next _).push _) hl4 ?_
  rw [hF.p1]
  refine Tq6 ?_
  refine sO ((hW.next _).push _) hl ?_
  rw [hF.p1]
  refine Tq6 ?_
  exact Y20
theorem N6:EEe 165 F4:=by
 unfold F4
 refine Yef fun _ H K h=>?_
 unfold eW at h
 split at h<;>try exact h.elim
 rename_i id x
 obtain ⟨q,s,a,⟨hW,rfl,ha,hl⟩,hK⟩:=h
 refine ⟨_,_,hK,?_⟩
 clear hK
 have hF:=hW.facts
 have hcl0:=fun t=>hW.closed (t:=t)
 have hid:=glq hW.o
 have hq:=glq hW.bu
 refine Yfw aE (tCq pD (tCq pW (tCq u2 (tCq tt (tCq yy tNq))))) Tryz.func165 [] (by rw [ak];omega) (T:=aB []) (h:=fun hcl=>?_)
 have hcl1:=fun t=>hcl0 t hcl
 unfold fC at hl ⊢
 rw [← aH,← aH] at hl ⊢
 have hl1:=aQ hl
 have hl0:=aQ hl1
 have hE10:(s).add (bn gz 32 a.fields)=((s).add (db a.fields.length 32)).add (b5 gz a.fields):=gW
 have hT10:=hl0
 rw [hE10] at hT10
 have hN10:=gF wO hT10
 refine Tq7 ?_
 refine lO (hW.push _) (aQ hT10) ?_
 rw [hF.p0]
 refine Tq7 ?_
 refine aC (A:=Nat) (fun k=>[(0,.ptr id 0),(3,.ptr H.nx 0),(18,.slice .any 3 (a.fields.map (aG))),(19,.int .i64 (a.fields.length:Int)),(20,.int .i64 (k:Int))]) (fun k=>(swH H id q (((s).add (db a.fields.length 32)).add (b5 gz (a.fields.take k)))).push (.cells (hG a))) (fun k=>k≤a.fields.length) (fun k=>a.fields.length - k) 0 (by omega) ?_ fun k1 hk1=>?_
 ·rw [yar,b5,cU]
  refine eNt (ah (hcl1 _) (jj (x:=eE a) fun _=>lH a)) ?_ ?_ (a:=by simp only [zkq,zkv,zle,ak];omega)
  ·exact Y16
  ·exact Y13
 refine Tq15 ?_
 refine au (fun hc=>?_) (fun hc=>?_)
 ·have hk1':k1<a.fields.length:=sHc
  obtain ⟨x1,hx1⟩:∃ x1,x1=a.fields[k1]:=⟨_,rfl⟩
  have hg1:=cG (f:=aG) (l:=a.fields) (k:=k1) (x:=x1) (by rw [gQq hk1',hx1])
  have e15:IntKind.i64.wrap ((k1:Int)+1)=((k1+1:Nat):Int):=by rw [wrap_i64]<;>omega
  have ho1:=(ha.f) x1 (by rw [hx1];exact gMq hk1')
  obtain ⟨es1,hlk1⟩:=dh (g:=gz) hk1' hx1 hT10
  simp only [go_sem,eE,aR,inL,boL,vc,hG,bS,bT,bX,bP,bR,bV,bW,bY,bU,bO,bL,bN,bM,AV.cells,ap,bb,aG,aJ,az,ba,aL,aT,a9,aN,aO,aA,ax,ybb,zle,iNq,ybb,hg1,aG,ak]
  refine ⟨by omega,?_⟩
  rw [show gz x1=((b9 x1.id 2).add ((il x1.name 24).add (b9 x1.bits 1))) from rfl] at es1 hlk1
  rw [← aH,← aH] at hlk1
  rw [← aH,← aH] at es1
  have hm11:=aQ hlk1
  have hm10:=aQ hm11
  refine Tq26 ?_
  refine cW (.inr rfl) ((hW.next _).push2 _ _) hm10 ?_
  rw [hF.p2]
  refine Tq26 ?_
  refine kQ (ho1) ((hW.next _).push2 _ _) hm11 ?_
  rw [hF.p2]
  refine Tq26 ?_
  refine cW (.inl rfl) ((hW.next _).push2 _ _) hlk1 ?_
  rw [hF.p2]
  rw [es1]
  refine Tq66 ?_
  refine ⟨k1+1,by omega,by omega,eNt (ah (hcl1 _) (jj (x:=eE a) fun _=>lH a)) ?_ ?_ (a:=by simp only [zkq,zkv,zle,ak];omega)⟩
  ·exact Y18
  ·exact Y13
 ·have hk1':k1=a.fields.length:=sHc
  subst hk1'
  rw [List.take_length]
  rw [← hE10]
  have hE11:(((s).add (bn gz 32 a.fields))).add (bn fT 8 a.headers)=((((s).add (bn gz 32 a.fields))).add (db a.headers.length 8)).add (b5 fT a.headers):=gW
  have hT11:=hl1
  rw [hE11] at hT11
  have hN11:=gF tN hT11
  refine Tq7 ?_
  refine lO ((hW.next _).push _) (aQ hT11) ?_
  rw [hF.p1]
  refine Tq7 ?_
  refine aC (A:=Nat) (fun k=>[(0,.ptr id 0),(3,.ptr H.nx 0),(43,.slice .any 3 (a.headers.map (az))),(44,.int .i64 (a.headers.length:Int)),(45,.int .i64 (k:Int))]) (fun k=>(swH H id q (((((s).add (bn gz 32 a.fields))).add (db a.headers.length 8)).add (b5 fT (a.headers.take k)))).push (.cells (hG a))) (fun k=>k≤a.headers.length) (fun k=>a.headers.length - k) 0 (by omega) ?_ fun k1 hk1=>?_
  ·rw [yar,b5,cU]
   refine eNt (ah (hcl1 _) (jj (x:=eE a) fun _=>lH a)) ?_ ?_ (a:=by simp only [zkq,zkv,zle,ak];omega)
   ·exact Y16
   ·exact Y13
  refine Tq15 ?_
  refine au (fun hc=>?_) (fun hc=>?_)
  ·have hk1':k1<a.headers.length:=sHc
   obtain ⟨x1,hx1⟩:∃ x1,x1=a.headers[k1]:=⟨_,rfl⟩
   have hg1:=cG (f:=az) (l:=a.headers) (k:=k1) (x:=x1) (by rw [gQq hk1',hx1])
   have e15:IntKind.i64.wrap ((k1:Int)+1)=((k1+1:Nat):Int):=by rw [wrap_i64]<;>omega
   have ho1:=(ha.h) x1 (by rw [hx1];exact gMq hk1')
   obtain ⟨es1,hlk1⟩:=dh (g:=fT) hk1' hx1 hT11
   simp only [go_sem,eE,aR,inL,boL,vc,hG,bS,bT,bX,bP,bR,bV,bW,bY,bU,bO,bL,bN,bM,AV.cells,ap,bb,aG,aJ,az,ba,aL,aT,a9,aN,aO,aA,ax,ybb,zle,iNq,ybb,hg1,az,ak]
   refine ⟨by omega,?_⟩
   rw [show fT x1=((b9 x1.id 2).add ((il x1.name 24).add (bn jH 32 x1.fields))) from rfl] at es1 hlk1
   rw [← aH,← aH] at hlk1
   rw [← aH,← aH] at es1
   have hm11:=aQ hlk1
   have hm10:=aQ hm11
   refine Tq25 ?_
   refine cW (.inr rfl) ((hW.next _).push2 _ _) hm10 ?_
   rw [hF.p2]
   refine Tq25 ?_
   refine kQ (ho1) ((hW.next _).push2 _ _) hm11 ?_
   rw [hF.p2]
   refine Tq25 ?_
   refine Bw ((hW.next _).push2 _ _) hlk1 ?_
   rw [hF.p2]
   rw [es1]
   refine Tq66 ?_
   refine ⟨k1+1,by omega,by omega,eNt (ah (hcl1 _) (jj (x:=eE a) fun _=>lH a)) ?_ ?_ (a:=by simp only [zkq,zkv,zle,ak];omega)⟩
   ·exact Y18
   ·exact Y13
  ·have hk1':k1=a.headers.length:=sHc
   subst hk1'
   rw [List.take_length]
   rw [← hE11]
   have hE12:(((((s).add (bn gz 32 a.fields))).add (bn fT 8 a.headers))).add (bn iY 12 a.states)=((((((s).add (bn gz 32 a.fields))).add (bn fT 8 a.headers))).add (db a.states.length 12)).add (b5 iY a.states):=gW
   have hT12:=hl
   rw [hE12] at hT12
   have hN12:=gF wV hT12
   refine Tq7 ?_
   refine lO ((hW.next _).push _) (aQ hT12) ?_
   rw [hF.p1]
   refine Tq7 ?_
   refine aC (A:=Nat) (fun k=>[(0,.ptr id 0),(3,.ptr H.nx 0),(68,.slice .any 5 (a.states.map (aA))),(69,.int .i64 (a.states.length:Int)),(70,.int .i64 (k:Int))]) (fun k=>(swH H id q (((((((s).add (bn gz 32 a.fields))).add (bn fT 8 a.headers))).add (db a.states.length 12)).add (b5 iY (a.states.take k)))).push (.cells (hG a))) (fun k=>k≤a.states.length) (fun k=>a.states.length - k) 0 (by omega) ?_ fun k1 hk1=>?_
   ·rw [yar,b5,cU]
    refine eNt (ah (hcl1 _) (jj (x:=eE a) fun _=>lH a)) ?_ ?_ (a:=by simp only [zkq,zkv,zle,ak];omega)
    ·exact Y16
    ·exact Y13
   refine Tq15 ?_
   refine au (fun hc=>?_) (fun hc=>?_)
   ·have hk1':k1<a.states.length:=sHc
    obtain ⟨x1,hx1⟩:∃ x1,x1=a.states[k1]:=⟨_,rfl⟩
    have hg1:=cG (f:=aA) (l:=a.states) (k:=k1) (x:=x1) (by rw [gQq hk1',hx1])
    have e15:IntKind.i64.wrap ((k1:Int)+1)=((k1+1:Nat):Int):=by rw [wrap_i64]<;>omega
    have ho1:=(ha.s) x1 (by rw [hx1];exact gMq hk1')
    obtain ⟨es1,hlk1⟩:=dh (g:=iY) hk1' hx1 hT12
    simp only [go_sem,eE,aR,inL,boL,vc,hG,bS,bT,bX,bP,bR,bV,bW,bY,bU,bO,bL,bN,bM,AV.cells,ap,bb,aG,aJ,az,ba,aL,aT,a9,aN,aO,aA,ax,ybb,zle,iNq,ybb,hg1,aA,ak]
    refine ⟨by omega,?_⟩
    rw [show iY x1=((b9 x1.id 2).add ((b9 x1.header 2).add ((b9 x1.select 2).add ((bn l9 6 x1.cases).add (b9 x1.dflt 2))))) from rfl] at es1 hlk1
    rw [← aH,← aH,← aH,← aH] at hlk1
    rw [← aH,← aH,← aH,← aH] at es1
    have hm13:=aQ hlk1
    have hm12:=aQ hm13
    have hm11:=aQ hm12
    have hm10:=aQ hm11
    refine Tq9 ?_
    refine cW (.inr rfl) ((hW.next _).push2 _ _) hm10 ?_
    rw [hF.p2]
    refine Tq9 ?_
    refine cW (.inr rfl) ((hW.next _).push2 _ _) hm11 ?_
    rw [hF.p2]
    refine Tq9 ?_
    refine cW (.inr rfl) ((hW.next _).push2 _ _) hm12 ?_
    rw [hF.p2]
    have hE23:((((((((((((((s).add (bn gz 32 a.fields))).add (bn fT 8 a.headers))).add (db a.states.length 12)).add (b5 iY (a.states.take k1)))).add (b9 x1.id 2))).add (b9 x1.header 2))).add (b9 x1.select 2))).add (bn l9 6 x1.cases)=(((((((((((((((s).add (bn gz 32 a.fields))).add (bn fT 8 a.headers))).add (db a.states.length 12)).add (b5 iY (a.states.take k1)))).add (b9 x1.id 2))).add (b9 x1.header 2))).add (b9 x1.select 2))).add (db x1.cases.length 6)).add (b5 l9 x1.cases):=gW
    have hT23:=hm13
    rw [hE23] at hT23
    have hN23:=gF z8 hT23
    refine Tq9 ?_
    refine lO ((hW.next _).push2 _ _) (aQ hT23) ?_
    rw [hF.p2]
    refine Tq9 ?_
    refine aC (A:=Nat) (fun k=>[(0,.ptr id 0),(3,.ptr H.nx 0),(68,.slice .any 5 (a.states.map (aA))),(69,.int .i64 (a.states.length:Int)),(70,.int .i64 (k1:Int)),(9,.ptr (H.nx+1) 0),(92,.slice .any 5 (x1.cases.map (bb))),(93,.int .i64 (x1.cases.length:Int)),(94,.int .i64 (k:Int))]) (fun k=>((swH H id q ((((((((((((((((s).add (bn gz 32 a.fields))).add (bn fT 8 a.headers))).add (db a.states.length 12)).add (b5 iY (a.states.take k1)))).add (b9 x1.id 2))).add (b9 x1.header 2))).add (b9 x1.select 2))).add (db x1.cases.length 6)).add (b5 l9 (x1.cases.take k)))).push (.cells (hG a))).push (.cells (bP x1))) (fun k=>k≤x1.cases.length) (fun k=>x1.cases.length - k) 0 (by omega) ?_ fun k2 hk2=>?_
    ·rw [yar,b5,cU]
     refine eNt (ah (ah (hcl1 _) (jj (x:=eE a) fun _=>lH a)) (jj (x:=aA x1) fun _=>cg x1)) ?_ ?_ (a:=by simp only [zkq,zkv,zle,ak];omega)
     ·exact Y16
     ·exact Y13
    refine Tq15 ?_
    refine au (fun hc=>?_) (fun hc=>?_)
    ·have hk2':k2<x1.cases.length:=sHc
     obtain ⟨x2,hx2⟩:∃ x2,x2=x1.cases[k2]:=⟨_,rfl⟩
     have hg2:=cG (f:=bb) (l:=x1.cases) (k:=k2) (x:=x2) (by rw [gQq hk2',hx2])
     have e25:IntKind.i64.wrap ((k2:Int)+1)=((k2+1:Nat):Int):=by rw [wrap_i64]<;>omega
     have ho2:=(ho1) x2 (by rw [hx2];exact gMq hk2')
     obtain ⟨es2,hlk2⟩:=dh (g:=l9) hk2' hx2 hT23
     simp only [go_sem,eE,aR,inL,boL,vc,hG,bS,bT,bX,bP,bR,bV,bW,bY,bU,bO,bL,bN,bM,AV.cells,ap,bb,aG,aJ,az,ba,aL,aT,a9,aN,aO,aA,ax,ybb,zle,iNq,ybb,hg1,aA,iNq,ybb,hg2,bb,vc,ak]
     refine ⟨by omega,?_⟩
     rw [show l9 x2=((jK x2.value).add ((jK x2.mask).add (b9 x2.next 2))) from rfl] at es2 hlk2
     rw [← aH,← aH] at hlk2
     rw [← aH,← aH] at es2
     have hm21:=aQ hlk2
     have hm20:=aQ hm21
     refine Tq22 ?_
     refine sX (ho2.1) ((hW.next _).push3 _ _ _) hm20 ?_
     rw [hF.p3]
     refine Tq22 ?_
     refine sX (ho2.2) ((hW.next _).push3 _ _ _) hm21 ?_
     rw [hF.p3]
     refine Tq22 ?_
     refine cW (.inr rfl) ((hW.next _).push3 _ _ _) hlk2 ?_
     rw [hF.p3]
     rw [es2]
     simp only [go_sem,e25]
     refine ⟨k2+1,by omega,by omega,eNt (ah (ah (hcl1 _) (jj (x:=eE a) fun _=>lH a)) (jj (x:=aA x1) fun _=>cg x1)) ?_ ?_ (a:=by simp only [zkq,zkv,zle,ak];omega)⟩
     ·exact Y18
     ·exact Y13
    ·have hk2':k2=x1.cases.length:=sHc
     subst hk2'
     rw [List.take_length]
     rw [← hE23]
     refine Tq9 ?_
     refine cW (.inr rfl) ((hW.next _).push2 _ _) hlk1 ?_
     rw [hF.p2]
     rw [es1]
     refine Tq66 ?_
     refine ⟨k1+1,by omega,by omega,eNt (ah (hcl1 _) (jj (x:=eE a) fun _=>lH a)) ?_ ?_ (a:=by simp only [zkq,zkv,zle,ak];omega)⟩
     ·exact Y18
     ·exact Y13
   ·have hk1':k1=a.states.length:=sHc
    subst hk1'
    rw [List.take_length]
    rw [← hE12]
    refine Tq7 ?_
    exact Y20
end Go.AL
