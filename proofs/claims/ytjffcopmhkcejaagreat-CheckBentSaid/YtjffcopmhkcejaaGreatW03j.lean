/- Lemmas of the proof; no condition. -/
import Derived.Test.YtjffcopmhkcejaaGreatW03e
set_option linter.all false
set_option maxRecDepth 10000
set_option maxHeartbeats 32000000
open Go Go.AL Go.Proofs
namespace Go.AL
theorem G0:ti Tryz.prog 124=some ⟨.struct [(0,3,false),(1,121,false),(2,122,false)],3,24,.agg [.int .i64 0,.nilf,.nilf]⟩:=krf
def MQ:tFn Tryz.prog 121:=kFn
def II:tFn Tryz.prog 122:=kFn
theorem G1:ti Tryz.prog 130=some ⟨.struct [(0,3,false),(1,127,false),(2,128,false)],3,24,.agg [.int .i64 0,.nilf,.nilf]⟩:=krf
def Hx:tFn Tryz.prog 127:=kFn
def HJ:tFn Tryz.prog 128:=kFn
theorem Gs:ti Tryz.prog 136=some ⟨.struct [(0,3,false),(1,133,false),(2,134,false)],3,24,.agg [.int .i64 0,.nilf,.nilf]⟩:=krf
def I8:tFn Tryz.prog 133:=kFn
def IO:tFn Tryz.prog 134:=kFn
theorem FY:ti Tryz.prog 289=some ⟨.struct [(0,3,false),(1,286,false),(2,287,false)],3,24,.agg [.int .i64 0,.nilf,.nilf]⟩:=krf
def Hf:tFn Tryz.prog 286:=kFn
def Ic:tFn Tryz.prog 287:=kFn
attribute [go_sem] G0 MQ II G1 Hx HJ Gs I8 IO FY Hf Ic
def Ez:=eW (az) xd fT
def JO:=nA 185 3 (az) xd fT
def H5:EEe 185 Ez:=by
 unfold Ez
 refine Yef fun _ H K h=>?_
 unfold eW at h
 split at h<;>try exact h.elim
 rename_i id x
 obtain⟨q,s,a,⟨hW,rfl,ha,hl⟩,hK⟩:=h
 refine⟨_,_,hK,?_⟩
 clear hK
 have hF:=hW.facts
 have hcl0:=hW.closed (t:=s.add (fT a))
 have hid:=glq hW.o
 have hq:=glq hW.bu
 refine Yfw aD (tCq jv (tCq pl (tCq wv (tCq ua tNq)))) Tryz.func185 [] Xh (T:=aC [(3,[[],[],[],[],[1,3]])]) (h:=fun hcl=>?_)
 have hcl1:=hcl0 hcl
 unfold fT at hl hcl1 ⊢
 rw[← aI,← aI]at hl hcl1 ⊢
 have hl3:=hl
 have hl2:=aT hl3
 have hl1:=aT hl2
 simp only[go_sem,az,gA,inL,ak,bb]
 refine dk (.inr rfl) (hW.push _) hl1 ?_
 rw[hF.p0]
 simp only[go_sem,az,gA,inL,ak,bb]
 refine lJ (ha) ((hW.next _).push _) hl2 ?_
 rw[hF.p1]
 simp only[go_sem,az,gA,inL,ak,bb]
 refine lK (c:=.int .i64) (fun _ _=>trivial) ((hW.next _).push _) hl3 ?_
 rw[hF.p1]
 try simp only[go_sem,az,gA,inL,ak,bb]
 exact Z16
def FE:EEe 50 JO:=lT wa (fun _ x=>b9 x) (fun _=>⟨_,rfl,rfl,rfl⟩) fun wf sz c ok g ew es ec eo eg hone hlt' hag id most r q s l H hW ha hl=>by
 refine ACalls.fW aD (tCq dr (tCq H5 tNq)) Tryz.func50 [] Xh (T:=aC [(2,[[],[],[],[],[],[],[],[],[4,7],[],[],[4,7]])]) (h:=fun hcl hlt=>?_)
 exact Y0
def kH:PCt
 |[],_,K=>K (.agg (cm 8 185 188))
 |_,_,_=>False
def K3:EPp 51 kH:=by
 refine Ype fun _ H K h=>?_
 unfold kH at h
 split at h<;>try exact h.elim
 refine⟨_,h,?_⟩
 refine Yfv aD tNq Tryz.func51 [.cell 0 124] fun hcl hlt=>?_
 exact Y48
def DB:=eW (aE) zO iD
def Hn:=nA 190 5 (aE) zO iD
def JR:EEe 190 DB:=by
 unfold DB
 refine Yef fun _ H K h=>?_
 unfold eW at h
 split at h<;>try exact h.elim
 rename_i id x
 obtain⟨q,s,a,⟨hW,rfl,ha,hl⟩,hK⟩:=h
 refine⟨_,_,hK,?_⟩
 clear hK
 have hF:=hW.facts
 have hcl0:=hW.closed (t:=s.add (iD a))
 have hid:=glq hW.o
 have hq:=glq hW.bu
 refine Yfw aD (tCq jv (tCq Kw (tCq F0 tNq))) Tryz.func190 [] Xh (T:=aC [(4,[[],[],[],[],[1,3]])]) (h:=fun hcl=>?_)
 have hcl1:=hcl0 hcl
 unfold iD at hl hcl1 ⊢
 rw[← aI,← aI,← aI,← aI]at hl hcl1 ⊢
 have hl5:=hl
 have hl4:=aT hl5
 have hl3:=aT hl4
 have hl2:=aT hl3
 have hl1:=aT hl2
 simp only[go_sem,aE,nG,ak,bb]
 refine dk (.inr rfl) (hW.push _) hl1 ?_
 rw[hF.p0]
 simp only[go_sem,aE,nG,ak,bb]
 refine dk (.inr rfl) ((hW.next _).push _) hl2 ?_
 rw[hF.p1]
 simp only[go_sem,aE,nG,ak,bb]
 refine dk (.inr rfl) ((hW.next _).push _) hl3 ?_
 rw[hF.p1]
 simp only[go_sem,aE,nG,ak,bb]
 refine lK (c:=ba) (ha) ((hW.next _).push _) hl4 ?_
 rw[hF.p1]
 simp only[go_sem,aE,nG,ak,bb]
 refine dk (.inr rfl) ((hW.next _).push _) hl5 ?_
 rw[hF.p1]
 try simp only[go_sem,aE,nG,ak,bb]
 exact Z16
def Fg:EEe 52 Hn:=lT xO (fun _ x=>cg x) (fun _=>⟨_,rfl,rfl,rfl⟩) fun wf sz c ok g ew es ec eo eg hone hlt' hag id most r q s l H hW ha hl=>by
 refine ACalls.fW aD (tCq dr (tCq JR tNq)) Tryz.func52 [] Xh (T:=aC [(2,[[],[],[],[],[],[],[],[],[4,7],[],[],[4,7]])]) (h:=fun hcl hlt=>?_)
 exact Y0
def kG:PCt
 |[],_,K=>K (.agg (cm 12 190 193))
 |_,_,_=>False
def Jy:EPp 53 kG:=by
 refine Ype fun _ H K h=>?_
 unfold kG at h
 split at h<;>try exact h.elim
 refine⟨_,h,?_⟩
 refine Yfv aD tNq Tryz.func53 [.cell 0 130] fun hcl hlt=>?_
 exact Y48
def D6:=eW (ap) oQ eO
def HK:=nA 195 5 (ap) oQ eO
def Ld:EEe 195 D6:=by
 unfold D6
 refine Yef fun _ H K h=>?_
 unfold eW at h
 split at h<;>try exact h.elim
 rename_i id x
 obtain⟨q,s,a,⟨hW,rfl,ha,hl⟩,hK⟩:=h
 refine⟨_,_,hK,?_⟩
 clear hK
 have hF:=hW.facts
 have hcl0:=hW.closed (t:=s.add (eO a))
 have hid:=glq hW.o
 have hq:=glq hW.bu
 refine Yfw aD (tCq jv (tCq pl (tCq Hq (tCq GI (tCq Mo (tCq Fp tNq)))))) Tryz.func195 [] Xh (T:=aC [(3,[[],[],[],[],[1,3]]),(4,[[],[],[],[],[1,3]])]) (h:=fun hcl=>?_)
 have hcl1:=hcl0 hcl
 unfold eO at hl hcl1 ⊢
 rw[← aI,← aI,← aI,← aI]at hl hcl1 ⊢
 have hl5:=hl
 have hl4:=aT hl5
 have hl3:=aT hl4
 have hl2:=aT hl3
 have hl1:=aT hl2
 simp only[go_sem,ap,nN,nW,ak,bb]
 refine dk (.inr rfl) (hW.push _) hl1 ?_
 rw[hF.p0]
 simp only[go_sem,ap,nN,nW,ak,bb]
 refine lJ (ha.1) ((hW.next _).push _) hl2 ?_
 rw[hF.p1]
 simp only[go_sem,ap,nN,nW,ak,bb]
 refine lK (c:=aL) (ha.2.1) ((hW.next _).push _) hl3 ?_
 rw[hF.p1]
 simp only[go_sem,ap,nN,nW,ak,bb]
 refine lK (c:=aU) (ha.2.2.1) ((hW.next _).push _) hl4 ?_
 rw[hF.p1]
 simp only[go_sem,ap,nN,nW,ak,bb]
 refine lJ (ha.2.2.2) ((hW.next _).push _) hl5 ?_
 rw[hF.p1]
 try simp only[go_sem,ap,nN,nW,ak,bb]
 exact Z16
def EW:EEe 54 HK:=lT xb (fun _ x=>bD x) (fun _=>⟨_,rfl,rfl,rfl⟩) fun wf sz c ok g ew es ec eo eg hone hlt' hag id most r q s l H hW ha hl=>by
 refine ACalls.fW aD (tCq dr (tCq Ld tNq)) Tryz.func54 [] Xh (T:=aC [(2,[[],[],[],[],[],[],[],[],[4,7],[],[],[4,7]])]) (h:=fun hcl hlt=>?_)
 exact Y0
def kC:PCt
 |[],_,K=>K (.agg (cm 12 195 200))
 |_,_,_=>False
def Ir:EPp 55 kC:=by
 refine Ype fun _ H K h=>?_
 unfold kC at h
 split at h<;>try exact h.elim
 refine⟨_,h,?_⟩
 refine Yfv aD tNq Tryz.func55 [.cell 0 136] fun hcl hlt=>?_
 exact Y48
def Eg:=eW (aK) sA jo
def Lg:=nA 303 4 (aK) sA jo
def J6:EEe 303 Eg:=by
 unfold Eg
 refine Yef fun _ H K h=>?_
 unfold eW at h
 split at h<;>try exact h.elim
 rename_i id x
 obtain⟨q,s,a,⟨hW,rfl,ha,hl⟩,hK⟩:=h
 refine⟨_,_,hK,?_⟩
 clear hK
 have hF:=hW.facts
 have hcl0:=hW.closed (t:=s.add (jo a))
 have hid:=glq hW.o
 have hq:=glq hW.bu
 refine Yfw aD (tCq jv (tCq z6 (tCq Mv (tCq E8 tNq)))) Tryz.func303 [] Xh (T:=aC [(4,[[],[],[],[],[1,3]])]) (h:=fun hcl=>?_)
 have hcl1:=hcl0 hcl
 unfold jo at hl hcl1 ⊢
 rw[← aI,← aI,← aI]at hl hcl1 ⊢
 have hl4:=hl
 have hl3:=aT hl4
 have hl2:=aT hl3
 have hl1:=aT hl2
 simp only[go_sem,aK,py,boL,ak,bb]
 refine dk (.inr rfl) (hW.push _) hl1 ?_
 rw[hF.p0]
 simp only[go_sem,aK,py,boL,ak,bb]
 refine ux ((hW.next _).push _) hl2 ?_
 rw[hF.p1]
 simp only[go_sem,aK,py,boL,ak,bb]
 refine ux ((hW.next _).push _) hl3 ?_
 rw[hF.p1]
 simp only[go_sem,aK,py,boL,ak,bb]
 refine lK (c:=.bool) (fun _ _=>trivial) ((hW.next _).push _) hl4 ?_
 rw[hF.p1]
 try simp only[go_sem,aK,py,boL,ak,bb]
 exact Z16
def E1:EEe 214 Lg:=lT x7 (fun _ x=>cf x) (fun _=>⟨_,rfl,rfl,rfl⟩) fun wf sz c ok g ew es ec eo eg hone hlt' hag id most r q s l H hW ha hl=>by
 refine ACalls.fW aD (tCq dr (tCq J6 tNq)) Tryz.func214 [] Xh (T:=aC [(2,[[],[],[],[],[],[],[],[],[4,7],[],[],[4,7]])]) (h:=fun hcl hlt=>?_)
 exact Y0
def mS:PCt
 |[],_,K=>K (.agg (cm 8 303 306))
 |_,_,_=>False
def IC:EPp 215 mS:=by
 refine Ype fun _ H K h=>?_
 unfold mS at h
 split at h<;>try exact h.elim
 refine⟨_,h,?_⟩
 refine Yfv aD tNq Tryz.func215 [.cell 0 289] fun hcl hlt=>?_
 exact Y48
theorem E5:ti Tryz.prog 142=some ⟨.struct [(0,3,false),(1,139,false),(2,140,false)],3,24,.agg [.int .i64 0,.nilf,.nilf]⟩:=krf
def Lp:tFn Tryz.prog 139:=kFn
def J1:tFn Tryz.prog 140:=kFn
theorem Fe:ti Tryz.prog 154=some ⟨.struct [(0,3,false),(1,151,false),(2,152,false)],3,24,.agg [.int .i64 0,.nilf,.nilf]⟩:=krf
def KL:tFn Tryz.prog 151:=kFn
def IL:tFn Tryz.prog 152:=kFn
attribute [go_sem] E5 Lp J1 Fe KL IL
def DH:=eW (au) qP gx
def Mb:=nA 203 8 (au) qP gx
def Me:EEe 203 DH:=by
 unfold DH
 refine Yef fun _ H K h=>?_
 unfold eW at h
 split at h<;>try exact h.elim
 rename_i id x
 obtain⟨q,s,a,⟨hW,rfl,ha,hl⟩,hK⟩:=h
 refine⟨_,_,hK,?_⟩
 clear hK
 have hF:=hW.facts
 have hcl0:=hW.closed (t:=s.add (gx a))
 have hid:=glq hW.o
 have hq:=glq hW.bu
 refine Yfw aD (tCq jv (tCq pl (tCq Ht (tCq FL (tCq wv (tCq ua (tCq Kn (tCq FV tNq)))))))) Tryz.func203 [] Xh (T:=aC [(3,[[],[],[],[],[1,3]]),(4,[[],[],[],[],[1,3]]),(6,[[],[],[],[],[1,3]])]) (h:=fun hcl=>?_)
 have hcl1:=hcl0 hcl
 unfold gx at hl hcl1 ⊢
 rw[← aI,← aI,← aI,← aI,← aI,← aI,← aI]at hl hcl1 ⊢
 have hl8:=hl
 have hl7:=aT hl8
 have hl6:=aT hl7
 have hl5:=aT hl6
 have hl4:=aT hl5
 have hl3:=aT hl4
 have hl2:=aT hl3
 have hl1:=aT hl2
 refine Tq39 ?_
 refine dk (.inr rfl) (hW.push _) hl1 ?_
 rw[hF.p0]
 refine Tq39 ?_
 refine lJ (ha.1) ((hW.next _).push _) hl2 ?_
 rw[hF.p1]
 refine Tq39 ?_
 refine lK (c:=aZ) (ha.2.1) ((hW.next _).push _) hl3 ?_
 rw[hF.p1]
 refine Tq39 ?_
 refine lK (c:=.int .i64) (fun _ _=>trivial) ((hW.next _).push _) hl4 ?_
 rw[hF.p1]
 refine Tq39 ?_
 refine dk (.inr rfl) ((hW.next _).push _) hl5 ?_
 rw[hF.p1]
 refine Tq39 ?_
 refine lK (c:=vv) (ha.2.2.1) ((hW.next _).push _) hl6 ?_
 rw[hF.p1]
 refine Tq39 ?_
 refine dk (.inr rfl) ((hW.next _).push _) hl7 ?_
 rw[hF.p1]
 refine Tq39 ?_
 refine lJ (ha.2.2.2) ((hW.next _).push _) hl8 ?_
 rw[hF.p1]
 try simp only[go_sem,au,gA,kZ,lh,inL,ak,bb]
 exact Z16
def E9:EEe 56 Mb:=lT xF (fun _ x=>bZ x) (fun _=>⟨_,rfl,rfl,rfl⟩) fun wf sz c ok g ew es ec eo eg hone hlt' hag id most r q s l H hW ha hl=>by
 refine ACalls.fW aD (tCq dr (tCq Me tNq)) Tryz.func56 [] Xh (T:=aC [(2,[[],[],[],[],[],[],[],[],[4,7],[],[],[4,7]])]) (h:=fun hcl hlt=>?_)
 exact Y0
def kD:PCt
 |[],_,K=>K (.agg (cm 8 203 208))
 |_,_,_=>False
def KC:EPp 57 kD:=by
 refine Ype fun _ H K h=>?_
 unfold kD at h
 split at h<;>try exact h.elim
 refine⟨_,h,?_⟩
 refine Yfv aD tNq Tryz.func57 [.cell 0 142] fun hcl hlt=>?_
 exact Y48
def Dx:=eW (aP) za ky
def HD:=nA 213 6 (aP) za ky
def Lz:EEe 213 Dx:=by
 unfold Dx
 refine Yef fun _ H K h=>?_
 unfold eW at h
 split at h<;>try exact h.elim
 rename_i id x
 obtain⟨q,s,a,⟨hW,rfl,ha,hl⟩,hK⟩:=h
 refine⟨_,_,hK,?_⟩
 clear hK
 have hF:=hW.facts
 have hcl0:=hW.closed (t:=s.add (ky a))
 have hid:=glq hW.o
 have hq:=glq hW.bu
 refine Yfw aD (tCq jv (tCq pl (tCq IC (tCq E1 (tCq wv (tCq ua (tCq z6 tNq))))))) Tryz.func213 [] Xh (T:=aC [(3,[[],[],[],[],[1,3]]),(4,[[],[],[],[],[1,3]])]) (h:=fun hcl=>?_)
 have hcl1:=hcl0 hcl
 unfold ky at hl hcl1 ⊢
 rw[← aI,← aI,← aI,← aI,← aI]at hl hcl1 ⊢
 have hl6:=hl
 have hl5:=aT hl6
 have hl4:=aT hl5
 have hl3:=aT hl4
 have hl2:=aT hl3
 have hl1:=aT hl2
 refine Tq58 ?_
 refine dk (.inr rfl) (hW.push _) hl1 ?_
 rw[hF.p0]
 refine Tq58 ?_
 refine lJ (ha) ((hW.next _).push _) hl2 ?_
 rw[hF.p1]
 refine Tq58 ?_
 refine lK (c:=aK) (fun _ _=>trivial) ((hW.next _).push _) hl3 ?_
 rw[hF.p1]
 refine Tq58 ?_
 refine lK (c:=.int .i64) (fun _ _=>trivial) ((hW.next _).push _) hl4 ?_
 rw[hF.p1]
 refine Tq58 ?_
 refine dk (.inr rfl) ((hW.next _).push _) hl5 ?_
 rw[hF.p1]
 refine Tq58 ?_
 refine ux ((hW.next _).push _) hl6 ?_
 rw[hF.p1]
 try simp only[go_sem,aP,mS,gA,inL,ak,bb]
 exact Z16
def Gx:EEe 60 HD:=lT AP (fun _ x=>cB x) (fun _=>⟨_,rfl,rfl,rfl⟩) fun wf sz c ok g ew es ec eo eg hone hlt' hag id most r q s l H hW ha hl=>by
 refine ACalls.fW aD (tCq dr (tCq Lz tNq)) Tryz.func60 [] Xh (T:=aC [(2,[[],[],[],[],[],[],[],[],[4,7],[],[],[4,7]])]) (h:=fun hcl hlt=>?_)
 exact Y0
def kE:PCt
 |[],_,K=>K (.agg (cm 6 213 217))
 |_,_,_=>False
def LV:EPp 61 kE:=by
 refine Ype fun _ H K h=>?_
 unfold kE at h
 split at h<;>try exact h.elim
 refine⟨_,h,?_⟩
 refine Yfv aD tNq Tryz.func61 [.cell 0 154] fun hcl hlt=>?_
 exact Y48
theorem Ns:ti Tryz.prog 224=some ⟨.struct [(0,22,false),(1,4,false),(2,4,false),(3,4,false)],4,32,.agg [.slice .nil 1 [],.bool false,.bool false,.bool false]⟩:=krf
theorem LB:ti Tryz.prog 222=some ⟨.ptr 224,1,8,.nilp⟩:=krf
attribute [go_sem] Ns LB
def GQ(l:By):l.any mF=!lR l:=by
 unfold lR
 rw[List.not_all_eq_any_not]
 congr 1
 funext c
 have e1:(((c.toNat:Int)<32))=(c.toNat<32):=by rw[show((32:Int))=((32:Nat):Int) from rfl,Int.ofNat_lt]
 have e2:(((c.toNat:Int)>126))=(126<c.toNat):=by rw[show((126:Int))=((126:Nat):Int) from rfl,gt_iff_lt,Int.ofNat_lt]
 simp only[mF,Bool.not_not,e1,e2]
def KN:=xa
def OZ:EEe 275 KN:=by
 unfold KN
 refine Yef fun _ H K h=>?_
 unfold xa at h
 split at h<;>try exact h.elim
 rename_i id x
 obtain⟨q,s,⟨hW,hl⟩,hK⟩:=h
 refine⟨_,_,hK,?_⟩
 clear hK
 replace hl:=aT hl
 rw[bF]at hl
 have hcl0:=fun t=>hW.closed (t:=t)
 obtain⟨b,sl,sf,sa⟩:=s
 have hid:=glq hW.o
 have hq:=glq hW.bu
 have hne:=cS hid
 have hneq:=cS hq
 have n1:(id=q)=False:=eq_false hW.ne
 have n2:(q=id)=False:=eq_false fun e=>hW.ne e.symm
 have hcs:=aB hW.o
 have hb0:=hW.bu
 have hi0:=hW.o
 have hnn:=hW.ne
 dsimp only at hcs hb0 hi0 hl
 refine Yfw aD (tCq J9 tNq) Tryz.func275 [] Xh (T:=aC []) (h:=fun hcl=>?_)
 have hcl1:=fun t=>hcl0 t hcl
 have hcm:=fun cs=>@bG H id cs hid
 have hA:=fun X Y=>@cu H id q X Y hnn hid
 have hA0:∀ Y,a8 (H.set q Y) id=a8 H id:=fun Y=>by
  exact Y84
 have hB:=fun X=>dx (X:=X) hnn hb0
 have eh:=fun X Y Z=>@dz H id q X Y Z
 have hcl9:=hcl1 ((⟨b,sl,sf,sa⟩:Enc).add (jf x))
 simp only[swH,Enc.add,jf,Bool.or_false,lAq,List.length_singleton]at hcl9 ⊢
 simp only[go_sem,byq,hne,hneq,n1,n2,hcs,hcm,hA,hA0,hB,eh,hi0,hb0,zlx,zli,zlz,true_and,z8]
 (repeat with_reducible refine And.intro (by first|assumption|decide|omega|exact⟨by omega,Xa⟩|exact⟨Xa,Xa,Xa⟩|exact⟨Xa,hb0⟩|exact⟨Xa,hB _⟩|exact⟨Xa,Xa,hb0⟩|exact⟨Xa,Xa,hB _⟩) ?_)
 exact Y69
def J4:=xc
def zt:EEe 274 J4:=by
 unfold J4
 refine Yef fun _ H K h=>?_
 unfold xc at h
 split at h<;>try exact h.elim
 rename_i id hi lo
 obtain⟨q,s,v,⟨hW,hv,rfl,rfl,hl⟩,hK⟩:=h
 refine⟨_,_,hK,?_⟩
 clear hK
 have iv:=D1 hv
 replace hl:=aT hl
 rw[bF]at hl
 have hcl0:=fun t=>hW.closed (t:=t)
 obtain⟨b,sl,sf,sa⟩:=s
 have hid:=glq hW.o
 have hq:=glq hW.bu
 have hne:=cS hid
 have hneq:=cS hq
 have n1:(id=q)=False:=eq_false hW.ne
 have n2:(q=id)=False:=eq_false fun e=>hW.ne e.symm
 have hcs:=aB hW.o
 have hb0:=hW.bu
 have hi0:=hW.o
 have hnn:=hW.ne
 dsimp only at hcs hb0 hi0 hl
 refine Yfw aD (tCq Gq tNq) Tryz.func274 [] Xh (T:=aC [(1,[[],[],[],[],[],[],[4,5],[],[],[4,5,6]])]) (h:=fun hcl=>?_)
 have hcl1:=fun t=>hcl0 t hcl
 have hcm:=fun cs=>@bG H id cs hid
 have hA:=fun X Y=>@cu H id q X Y hnn hid
 have hA0:∀ Y,a8 (H.set q Y) id=a8 H id:=fun Y=>by
  exact Y84
 have hB:=fun X=>dx (X:=X) hnn hb0
 have eh:=fun X Y Z=>@dz H id q X Y Z
 have hcl9:=hcl1 ((⟨b,sl,sf,sa⟩:Enc).add (ko v))
 simp only[swH,Enc.add,ko,Bool.or_false,lAq]at hcl9 ⊢
 simp only[go_sem,byq,hne,hneq,n1,n2,hcs,hcm,hA,hA0,hB,eh,hi0,hb0,zlx,zli,zlz,true_and,vX,iv,iNq,kx]
 (repeat with_reducible refine And.intro (by first|assumption|decide|omega|exact⟨by omega,Xa⟩|exact⟨Xa,Xa,Xa⟩|exact⟨Xa,hb0⟩|exact⟨Xa,hB _⟩|exact⟨Xa,Xa,hb0⟩|exact⟨Xa,Xa,hB _⟩) ?_)
 exact Y69
def Hs:=vJ
def qW:EEe 154 Hs:=by
 unfold Hs
 refine Yef fun _ H K h=>?_
 unfold vJ at h
 split at h<;>try exact h.elim
 rename_i id n w
 obtain⟨q,s,⟨hW,hw,hl⟩,hK⟩:=h
 refine⟨_,_,hK,?_⟩
 clear hK
 have hcl0:=fun t=>hW.closed (t:=t)
 obtain⟨b,sl,sf,sa⟩:=s
 have hid:=glq hW.o
 have hq:=glq hW.bu
 have hne:=cS hid
 have hneq:=cS hq
 have n1:(id=q)=False:=eq_false hW.ne
 have n2:(q=id)=False:=eq_false fun e=>hW.ne e.symm
 have hcs:=aB hW.o
 have hb0:=hW.bu
 have hi0:=hW.o
 have hnn:=hW.ne
 dsimp only at hcs hb0 hi0 hl
 refine Yfw aD (tCq wA tNq) Tryz.func154 [] Xh (T:=aC []) (h:=fun hcl=>?_)
 have hcl1:=fun t=>hcl0 t hcl
 have hcm:=fun cs=>@bG H id cs hid
 have hA:=fun X Y=>@cu H id q X Y hnn hid
 have hA0:∀ Y,a8 (H.set q Y) id=a8 H id:=fun Y=>by
  exact Y84
 have hB:=fun X=>dx (X:=X) hnn hb0
 have eh:=fun X Y Z=>@dz H id q X Y Z
 have hcl9:=hcl1 ((⟨b,sl,sf,sa⟩:Enc).add (b8 n w))
 have s1:IntKind.u64.wrap (IntKind.i64.wrap 8)=8:=Xb
 have s2:uc .i64 1 8=256:=Xb
 have s3:IntKind.u64.wrap (IntKind.i64.wrap 16)=16:=Xb
 have s4:uc .i64 1 16=65536:=Xb
 simp only[swH,Enc.add,b8,Bool.or_false,lAq]at hcl9 ⊢
 by_cases h0:n<0
 ·have d0:decide (n<0)=true:=dtq h0
  rw[G8 h0,Bool.not_false,Bool.or_true]at hcl9 ⊢
  simp only[go_sem,byq,hne,hneq,n1,n2,hcs,hcm,hA,hA0,hB,eh,hi0,hb0,zlx,zli,zlz,true_and,pb,d0]
  (repeat with_reducible refine And.intro (by first|assumption|decide|omega|exact⟨by omega,Xa⟩|exact⟨Xa,Xa,Xa⟩|exact⟨Xa,hb0⟩|exact⟨Xa,hB _⟩|exact⟨Xa,Xa,hb0⟩|exact⟨Xa,Xa,hB _⟩) ?_)
  exact Y69
 ·have d0:decide (n<0)=false:=dfq h0
  rcases hw with rfl|rfl
  ·rw[TJ h0]at hcl9 ⊢
   cases hd:decide (n ≥ 256)
   all_goals
    rw[hd]at hcl9
    try rw[Bool.or_false]at hcl9
    try rw[Bool.or_true]at hcl9
    simp only[go_sem,byq,hne,hneq,n1,n2,hcs,hcm,hA,hA0,hB,eh,hi0,hb0,zlx,zli,zlz,true_and,pb,d0,s1,s2,hd,Bool.or_false,Bool.or_true]
    (repeat with_reducible refine And.intro (by first|assumption|decide|omega|exact⟨by omega,Xa⟩|exact⟨Xa,Xa,Xa⟩|exact⟨Xa,hb0⟩|exact⟨Xa,hB _⟩|exact⟨Xa,Xa,hb0⟩|exact⟨Xa,Xa,hB _⟩) ?_)
    simp (disch:=first|exact Zd|omega) [↓zmm,beq,ybc,ybd,ybe,ag,wk,wk2,wk1,wkM,wkL,ay,ybf,hcl9,lAq]
    first|done|exact hcl9|simpa using hcl9
  ·rw[TF h0]at hcl9 ⊢
   cases hd:decide (n ≥ 65536)
   all_goals
    rw[hd]at hcl9
    try rw[Bool.or_false]at hcl9
    try rw[Bool.or_true]at hcl9
    simp only[go_sem,byq,hne,hneq,n1,n2,hcs,hcm,hA,hA0,hB,eh,hi0,hb0,zlx,zli,zlz,true_and,pb,d0,s3,s4,hd,Bool.or_false,Bool.or_true]
    (repeat with_reducible refine And.intro (by first|assumption|decide|omega|exact⟨by omega,Xa⟩|exact⟨Xa,Xa,Xa⟩|exact⟨Xa,hb0⟩|exact⟨Xa,hB _⟩|exact⟨Xa,Xa,hb0⟩|exact⟨Xa,Xa,hB _⟩) ?_)
    simp (disch:=first|exact Zd|omega) [↓zmm,beq,ybc,ybd,ybe,ag,wk,wk2,wk1,wkM,wkL,ay,ybf,hcl9,lAq]
    first|done|exact hcl9|simpa using hcl9
def Dm:ECt
 |[.ptr id 0,.int .i64 n,.int .i64 most],H,K=>∃ q s k,(SOn H id q s∧n=((k:Nat):Int)∧(s.add (dy k most)).b.length≤dX)∧K (.ret (.tup [])) (swH H id q (s.add (dy k most)))
 |_,_,_=>False
def mL{id q k:Nat}{H:AHeap}{s:Enc}{m:Int}{K:AEnd→AHeap→Prop}(h:SOn H id q s)(hl:(s.add (dy k m)).b.length≤dX)(hK:K (.ret (.tup [])) (swH H id q (s.add (dy k m)))) :
 Dm [.ptr id 0,.int .i64 (k:Int),.int .i64 m] H K:=⟨q,s,k,⟨h,rfl,hl⟩,hK⟩
def rj:EEe 156 Dm:=by
 refine Yef fun _ H K h=>?_
 unfold Dm at h
 split at h<;>try exact h.elim
 rename_i id n most
 obtain⟨q,s,k,⟨hW,rfl,hl⟩,hK⟩:=h
 refine⟨_,_,hK,?_⟩
 clear hK
 replace hl:=aT hl
 rw[bF]at hl
 have hcl0:=fun t=>hW.closed (t:=t)
 obtain⟨b,sl,sf,sa⟩:=s
 have hid:=glq hW.o
 have hq:=glq hW.bu
 have hne:=cS hid
 have hneq:=cS hq
 have n1:(id=q)=False:=eq_false hW.ne
 have n2:(q=id)=False:=eq_false fun e=>hW.ne e.symm
 have hcs:=aB hW.o
 have hb0:=hW.bu
 have hi0:=hW.o
 have hnn:=hW.ne
 dsimp only at hcs hb0 hi0 hl
 refine Yfw aD (tCq wA tNq) Tryz.func156 [] Xh (T:=aC []) (h:=fun hcl=>?_)
 have hcl1:=fun t=>hcl0 t hcl
 have hcm:=fun cs=>@bG H id cs hid
 have hA:=fun X Y=>@cu H id q X Y hnn hid
 have hA0:∀ Y,a8 (H.set q Y) id=a8 H id:=fun Y=>by
  exact Y84
 have hB:=fun X=>dx (X:=X) hnn hb0
 have eh:=fun X Y Z=>@dz H id q X Y Z
 have hcl9:=hcl1 ((⟨b,sl,sf,sa⟩:Enc).add (dy k most))
 simp only[swH,Enc.add,dy,Bool.or_false,lAq]at hcl9 ⊢
 cases hd:decide ((k:Int)>most)
 all_goals
  rw[hd]at hcl9
  try rw[Bool.or_false]at hcl9
  try rw[Bool.or_true]at hcl9
  simp only[go_sem,byq,hne,hneq,n1,n2,hcs,hcm,hA,hA0,hB,eh,hi0,hb0,zlx,zli,zlz,true_and,pb,hd,Bool.or_false,Bool.or_true]
  (repeat with_reducible refine And.intro (by first|assumption|decide|omega|exact⟨by omega,Xa⟩|exact⟨Xa,Xa,Xa⟩|exact⟨Xa,hb0⟩|exact⟨Xa,hB _⟩|exact⟨Xa,Xa,hb0⟩|exact⟨Xa,Xa,hB _⟩) ?_)
  simp (disch:=first|exact Zd|omega) [↓zmm,beq,ybc,ybd,ybe,ag,wk,wk2,wk1,wkM,wkL,ay,ybf,hcl9,lAq]
  first|done|exact hcl9|simpa using hcl9
def Hg:=vG
def uN:EEe 272 Hg:=by
 unfold Hg
 refine Yef fun _ H K h=>?_
 unfold vG at h
 split at h<;>try exact h.elim
 rename_i id x most
 obtain⟨q,s,⟨hW,hx,hl⟩,hK⟩:=h
 refine⟨_,_,hK,?_⟩
 clear hK
 replace hl:=aT hl
 rw[bF]at hl hx
 have hcl0:=fun t=>hW.closed (t:=t)
 obtain⟨b,sl,sf,sa⟩:=s
 have hid:=glq hW.o
 have hq:=glq hW.bu
 have hne:=cS hid
 have hneq:=cS hq
 have n1:(id=q)=False:=eq_false hW.ne
 have n2:(q=id)=False:=eq_false fun e=>hW.ne e.symm
 have hcs:=aB hW.o
 have hb0:=hW.bu
 have hi0:=hW.o
 have hnn:=hW.ne
 dsimp only at hcs hb0 hi0 hl
 refine Yfw aD (tCq F2 (tCq Lq tNq)) Tryz.func272 [] Xh (T:=aC []) (h:=fun hcl=>?_)
 have hcl1:=fun t=>hcl0 t hcl
 have hcm:=fun cs=>@bG H id cs hid
 have hA:=fun X Y=>@cu H id q X Y hnn hid
 have hA0:∀ Y,a8 (H.set q Y) id=a8 H id:=fun Y=>by
  exact Y84
 have hB:=fun X=>dx (X:=X) hnn hb0
 have eh:=fun X Y Z=>@dz H id q X Y Z
 have hcl9:=hcl1 ((⟨b,sl,sf,sa⟩:Enc).add (iy x most))
 simp only[swH,Enc.add,iy,Bool.or_false,lAq,GQ]at hcl9 ⊢
 cases hd:decide ((x.length:Int)>most)<;>cases hp:lR x
 all_goals
  rw[hd,hp]at hcl9
  try rw[Bool.or_false]at hcl9
  try rw[Bool.or_true]at hcl9
  simp only[go_sem,byq,hne,hneq,n1,n2,hcs,hcm,hA,hA0,hB,eh,hi0,hb0,zlx,zli,zlz,true_and,vC,zH,hd,hp,Bool.or_false,Bool.or_true,Bool.not_true,Bool.not_false]
  (repeat with_reducible refine And.intro (by first|assumption|decide|omega|exact⟨by omega,Xa⟩|exact⟨Xa,Xa,Xa⟩|exact⟨Xa,hb0⟩|exact⟨Xa,hB _⟩|exact⟨Xa,Xa,hb0⟩|exact⟨Xa,Xa,hB _⟩) ?_)
  simp (disch:=first|exact Zd|omega) [↓zmm,beq,ybc,ybd,ybe,ag,wk,wk2,wk1,wkM,wkL,ay,ybf,hcl9,lAq]
  first|done|exact hcl9|simpa using hcl9
abbrev bT(x:SField):Wz:=(aJ x).cells
abbrev bU(x:SHeader):Wz:=(az x).cells
abbrev bS(x:SCase):Wz:=(ba x).cells
abbrev bK(x:SState):Wz:=(aE x).cells
abbrev bV(x:SParam):Wz:=(aL x).cells
abbrev bO(x:SPrim):Wz:=(aU x).cells
abbrev bR(x:SKey):Wz:=(aZ x).cells
abbrev bP(x:SStage):Wz:=(aQ x).cells
abbrev bQ(x:SRef):Wz:=(bc x).cells
abbrev bL(x:SGrant):Wz:=(aK x).cells
abbrev bJ(x:SAction):Wz:=(ap x).cells
abbrev bH(x:STable):Wz:=(au x).cells
abbrev bI(x:SRole):Wz:=(aP x).cells
def gX{α:Type}{g:α→Enc}(h1:∀ x,1≤(g x).b.length){l:List α}{s:Enc}(hl:(s.add (bX g l)).b.length≤dX):l.length≤100000000000000:=by
 have h2:=zK h1 l
 rw[bm,bF]at hl
 omega
def iq{α:Type}{g:α→Enc}{m:Int}{l:List α}{s:Enc}:s.add (bn g m l)=(s.add (dy l.length m)).add (bX g l):=by rw[aI];rfl
def jL{n:Nat}{x:AV}(h:∀ n,x.lt n):ltL n x.cells:=ltL_iff.2 fun j hj=>AV.lt_cells (h n) j hj
theorem SOn.push3{H:AHeap}{id q:Nat}{s:Enc}(h:SOn H id q s)(x y z:AObj):SOn (((H.push x).push y).push z) id q s:=((h.push x).push y).push z
def zq:ECt
 |[.ptr id 0,.slice .any 1 xs,.int .i64 most],H,K=>∃ q s l,(SOn H id q s∧xs=inL l∧(s.add (bn jP most l)).b.length≤dX)∧K (.ret (.tup [])) (swH H id q (s.add (bn jP most l)))
 |_,_,_=>False
def Ch{id q:Nat}{H:AHeap}{s:Enc}{l:List Int}{m:Int}{K:AEnd→AHeap→Prop}(h:SOn H id q s)(hl:(s.add (bn jP m l)).b.length≤dX)(hK:K (.ret (.tup [])) (swH H id q (s.add (bn jP m l)))) :
 zq [.ptr id 0,.slice .any 1 (l.map (.int .i64)),.int .i64 m] H K:=⟨q,s,l,⟨h,rfl,hl⟩,hK⟩
def vL:EEe 273 zq:=by
 refine Yef fun _ H K h=>?_
 unfold zq at h
 split at h<;>try exact h.elim
 rename_i id xs most
 obtain⟨q,s,l,⟨hW,rfl,hl⟩,hK⟩:=h
 refine⟨_,_,hK,?_⟩
 clear hK
 have hF:=hW.facts
 have hcl0:=fun t=>hW.closed (t:=t)
 have hid:=glq hW.o
 have hq:=glq hW.bu
 refine Yfw aD (tCq rj (tCq qW tNq)) Tryz.func273 [] Xh (T:=aC []) (h:=fun hcl=>?_)
 have hcl1:=fun t=>hcl0 t hcl
 have hE:s.add (bn jP most l)=(s.add (dy l.length most)).add (bX jP l):=by rw[aI];rfl
 rw[hE]at hl ⊢
 have hN:=gX Bq hl
 simp only[go_sem,inL,ybb]
 refine mL hW (aT hl) ?_
 simp only[go_sem,inL,ybb,ak]
 refine aG (A:=Nat) (fun k=>[(0,.ptr id 0),(13,.slice .any 1 (l.map (.int .i64))),(14,.int .i64 (l.length:Int)),(15,.int .i64 (k:Int))]) (fun k=>swH H id q ((s.add (dy l.length most)).add (bX jP (l.take k)))) (fun k=>k≤l.length) (fun k=>l.length-k) 0 Xa ?_ fun k hk=>?_
 ·rw[yar,bX,di]
  refine eNt (hcl1 _) ?_ ?_ (a:=Xi)
  ·simp[ltF,zlc,ak,znl,znd,aa fun _=>of_eq_true znd]
   try omega
  ·exact Y14
 refine Tq20 ?_
 refine ax (fun hc=>?_) (fun hc=>?_)
 ·have hk':k<l.length:=sHc
  obtain⟨x,hx⟩:∃ x,x=l[k]:=⟨_,rfl⟩
  have hg:=cN (f:=.int .i64) (l:=l) (k:=k) (x:=x) (by rw[gQq hk',hx])
  have e5:=Yk5 k
  obtain⟨es,hlk⟩:=dw (g:=jP) hk' hx hl
  simp only[go_sem,iNq,ybb,hg,ak]
  refine⟨Xa,?_⟩
  refine dk (.inr rfl) (hW.next _) hlk ?_
  rw[hF.pp,show b8 x 2=jP x from rfl,es]
  simp only[go_sem,e5]
  refine⟨k+1,Xa,Xa,eNt (hcl1 _) ?_ ?_ (a:=Xi)⟩
  ·simp[ltF,zlc,ak,znl,znd,aa fun _=>of_eq_true znd]
   try omega
  ·exact Y14
 ·exact Y13
def HA:=eW ap oQ eO
def HC:=eW au qP gx
def Mh:=eW aP za ky
def LG:=eW cW OkSch fH
def Od:EEe 157 HA:=by
 unfold HA
 refine Yef fun _ H K h=>?_
 unfold eW at h
 split at h<;>try exact h.elim
 rename_i id x
 obtain⟨q,s,a,⟨hW,rfl,ha,hl⟩,hK⟩:=h
 refine⟨_,_,hK,?_⟩
 clear hK
 have hF:=hW.facts
 have hcl0:=fun t=>hW.closed (t:=t)
 have hid:=glq hW.o
 have hq:=glq hW.bu
 refine Yfw aD (tCq rj (tCq qW (tCq uN (tCq zt tNq)))) Tryz.func157 [] Xh (T:=aC []) (h:=fun hcl=>?_)
 have hcl1:=fun t=>hcl0 t hcl
 unfold eO at hl ⊢
 rw[← aI,← aI,← aI,← aI]at hl ⊢
 have hl3:=aT hl
 have hl2:=aT hl3
 have hl1:=aT hl2
 have hl0:=aT hl1
 refine Tq9 ?_
 refine dk (.inr rfl) (hW.push _) hl0 ?_
 rw[hF.p0]
 refine Tq9 ?_
 refine lJ (ha.1) ((hW.next _).push _) hl1 ?_
 rw[hF.p1]
 have hE12:(((((s).add (b8 a.id 2))).add (iy a.name 24))).add (bn jq 4 a.params)=((((((s).add (b8 a.id 2))).add (iy a.name 24))).add (dy a.params.length 4)).add (bX jq a.params):=iq
 have hT12:=hl2
 rw[hE12]at hT12
 have hN12:=gX x6 hT12
 refine Tq9 ?_
 refine mL ((hW.next _).push _) (aT hT12) ?_
 rw[hF.p1]
 refine Tq9 ?_
 refine aG (A:=Nat) (fun k=>[(0,.ptr id 0),(3,.ptr H.nx 0),(22,.slice .any 2 (a.params.map (aL))),(23,.int .i64 (a.params.length:Int)),(24,.int .i64 (k:Int))]) (fun k=>(swH H id q (((((((s).add (b8 a.id 2))).add (iy a.name 24))).add (dy a.params.length 4)).add (bX jq (a.params.take k)))).push (.cells (bJ a))) (fun k=>k≤a.params.length) (fun k=>a.params.length-k) 0 Xa ?_ fun k1 hk1=>?_
 ·rw[yar,bX,di]
  refine eNt (ah (hcl1 _) (jL (x:=ap a) fun _=>bD a)) ?_ ?_ (a:=Xi)
  ·exact Y16
  ·exact Y14
 refine Tq20 ?_
 refine ax (fun hc=>?_) (fun hc=>?_)
 ·have hk1':k1<a.params.length:=sHc
  obtain⟨x1,hx1⟩:∃ x1,x1=a.params[k1]:=⟨_,rfl⟩
  have hg1:=cN (f:=aL) (l:=a.params) (k:=k1) (x:=x1) (by rw[gQq hk1',hx1])
  have e15:IntKind.i64.wrap ((k1:Int)+1)=((k1+1:Nat):Int):=Xe
  have ho1:=(ha.2.1) x1 (by rw[hx1];exact gMq hk1')
  obtain⟨es1,hlk1⟩:=dw (g:=jq) hk1' hx1 hT12
  simp only[go_sem,ap,inL,boL,vc,bT,bU,bS,bK,bV,bO,bR,bP,bQ,bL,bJ,bH,bI,AV.cells,ba,aJ,aK,az,aZ,aL,aU,bc,aP,aQ,aE,au,ybb,zlc,iNq,ybb,hg1,aL,ak]
  refine⟨Xa,?_⟩
  rw[show jq x1=((iy x1.name 24).add (b8 x1.bits 1)) from rfl]at es1 hlk1
  rw[← aI]at hlk1
  rw[← aI]at es1
  have hm10:=aT hlk1
  refine Tq48 ?_
  refine lJ (ho1) ((hW.next _).push2 _ _) hm10 ?_
  rw[hF.p2]
  refine Tq48 ?_
  refine dk (.inl rfl) ((hW.next _).push2 _ _) hlk1 ?_
  rw[hF.p2]
  rw[es1]
  refine Tq69 ?_
  refine⟨k1+1,Xa,Xa,eNt (ah (hcl1 _) (jL (x:=ap a) fun _=>bD a)) ?_ ?_ (a:=Xi)⟩
  ·exact Y18
  ·exact Y14
 ·have hk1':k1=a.params.length:=sHc
  subst hk1'
  rw[List.take_length]
  rw[← hE12]
  have hE13:(((((((s).add (b8 a.id 2))).add (iy a.name 24))).add (bn jq 4 a.params))).add (bn mM 12 a.body)=((((((((s).add (b8 a.id 2))).add (iy a.name 24))).add (bn jq 4 a.params))).add (dy a.body.length 12)).add (bX mM a.body):=iq
  have hT13:=hl3
  rw[hE13]at hT13
  have hN13:=gX Bx hT13
  refine Tq9 ?_
  refine mL ((hW.next _).push _) (aT hT13) ?_
  rw[hF.p1]
  refine Tq9 ?_
  refine aG (A:=Nat) (fun k=>[(0,.ptr id 0),(3,.ptr H.nx 0),(43,.slice .any 6 (a.body.map (aU))),(44,.int .i64 (a.body.length:Int)),(45,.int .i64 (k:Int))]) (fun k=>(swH H id q (((((((((s).add (b8 a.id 2))).add (iy a.name 24))).add (bn jq 4 a.params))).add (dy a.body.length 12)).add (bX mM (a.body.take k)))).push (.cells (bJ a))) (fun k=>k≤a.body.length) (fun k=>a.body.length-k) 0 Xa ?_ fun k1 hk1=>?_
  ·rw[yar,bX,di]
   refine eNt (ah (hcl1 _) (jL (x:=ap a) fun _=>bD a)) ?_ ?_ (a:=Xi)
   ·exact Y16
   ·exact Y14
  refine Tq20 ?_
  refine ax (fun hc=>?_) (fun hc=>?_)
  ·have hk1':k1<a.body.length:=sHc
   obtain⟨x1,hx1⟩:∃ x1,x1=a.body[k1]:=⟨_,rfl⟩
   have hg1:=cN (f:=aU) (l:=a.body) (k:=k1) (x:=x1) (by rw[gQq hk1',hx1])
   have e15:IntKind.i64.wrap ((k1:Int)+1)=((k1+1:Nat):Int):=Xe
   have ho1:=(ha.2.2.1) x1 (by rw[hx1];exact gMq hk1')
   obtain⟨es1,hlk1⟩:=dw (g:=mM) hk1' hx1 hT13
   simp only[go_sem,ap,inL,boL,vc,bT,bU,bS,bK,bV,bO,bR,bP,bQ,bL,bJ,bH,bI,AV.cells,ba,aJ,aK,az,aZ,aL,aU,bc,aP,aQ,aE,au,ybb,zlc,iNq,ybb,hg1,aU,vc,ak]
   refine⟨Xa,?_⟩
   rw[show mM x1=((b8 x1.op 1).add ((b8 x1.dst 2).add ((b8 x1.kind 1).add ((b8 x1.n 2).add (ko x1.value))))) from rfl]at es1 hlk1
   rw[← aI,← aI,← aI,← aI]at hlk1
   rw[← aI,← aI,← aI,← aI]at es1
   have hm13:=aT hlk1
   have hm12:=aT hm13
   have hm11:=aT hm12
   have hm10:=aT hm11
   refine Tq17 ?_
   refine dk (.inl rfl) ((hW.next _).push2 _ _) hm10 ?_
   rw[hF.p2]
   refine Tq17 ?_
   refine dk (.inr rfl) ((hW.next _).push2 _ _) hm11 ?_
   rw[hF.p2]
   refine Tq17 ?_
   refine dk (.inl rfl) ((hW.next _).push2 _ _) hm12 ?_
   rw[hF.p2]
   refine Tq17 ?_
   refine dk (.inr rfl) ((hW.next _).push2 _ _) hm13 ?_
   rw[hF.p2]
   refine Tq17 ?_
   refine uD (ho1) ((hW.next _).push2 _ _) hlk1 ?_
   rw[hF.p2]
   rw[es1]
   refine Tq69 ?_
   refine⟨k1+1,Xa,Xa,eNt (ah (hcl1 _) (jL (x:=ap a) fun _=>bD a)) ?_ ?_ (a:=Xi)⟩
   ·exact Y18
   ·exact Y14
  ·have hk1':k1=a.body.length:=sHc
   subst hk1'
   rw[List.take_length]
   rw[← hE13]
   refine Tq9 ?_
   refine lJ (ha.2.2.2) ((hW.next _).push _) hl ?_
   rw[hF.p1]
   refine Tq9 ?_
   exact Y20
def PS:EEe 158 HC:=by
 unfold HC
 refine Yef fun _ H K h=>?_
 unfold eW at h
 split at h<;>try exact h.elim
 rename_i id x
 obtain⟨q,s,a,⟨hW,rfl,ha,hl⟩,hK⟩:=h
 refine⟨_,_,hK,?_⟩
 clear hK
 have hF:=hW.facts
 have hcl0:=fun t=>hW.closed (t:=t)
 have hid:=glq hW.o
 have hq:=glq hW.bu
 refine Yfw aD (tCq rj (tCq qW (tCq vL (tCq uN (tCq zt tNq))))) Tryz.func158 [] Xh (T:=aC []) (h:=fun hcl=>?_)
 have hcl1:=fun t=>hcl0 t hcl
 unfold gx at hl ⊢
 rw[← aI,← aI,← aI,← aI,← aI,← aI,← aI]at hl ⊢
 have hl6:=aT hl
 have hl5:=aT hl6
 have hl4:=aT hl5
 have hl3:=aT hl4
 have hl2:=aT hl3
 have hl1:=aT hl2
 have hl0:=aT hl1
 refine Tq6 ?_
 refine dk (.inr rfl) (hW.push _) hl0 ?_
 rw[hF.p0]
 refine Tq6 ?_
 refine lJ (ha.1) ((hW.next _).push _) hl1 ?_
 rw[hF.p1]
 have hE12:(((((s).add (b8 a.id 2))).add (iy a.name 24))).add (bn pH 4 a.keys)=((((((s).add (b8 a.id 2))).add (iy a.name 24))).add (dy a.keys.length 4)).add (bX pH a.keys):=iq
 have hT12:=hl2
 rw[hE12]at hT12
 have hN12:=gX DC hT12
 refine Tq6 ?_
 refine mL ((hW.next _).push _) (aT hT12) ?_
 rw[hF.p1]
 refine Tq6 ?_
 refine aG (A:=Nat) (fun k=>[(0,.ptr id 0),(3,.ptr H.nx 0),(22,.slice .any 3 (a.keys.map (aZ))),(23,.int .i64 (a.keys.length:Int)),(24,.int .i64 (k:Int))]) (fun k=>(swH H id q (((((((s).add (b8 a.id 2))).add (iy a.name 24))).add (dy a.keys.length 4)).add (bX pH (a.keys.take k)))).push (.cells (bH a))) (fun k=>k≤a.keys.length) (fun k=>a.keys.length-k) 0 Xa ?_ fun k1 hk1=>?_
 ·rw[yar,bX,di]
  refine eNt (ah (hcl1 _) (jL (x:=au a) fun _=>bZ a)) ?_ ?_ (a:=Xi)
  ·exact Y16
  ·exact Y14
 refine Tq20 ?_
 refine ax (fun hc=>?_) (fun hc=>?_)
 ·have hk1':k1<a.keys.length:=sHc
  obtain⟨x1,hx1⟩:∃ x1,x1=a.keys[k1]:=⟨_,rfl⟩
  have hg1:=cN (f:=aZ) (l:=a.keys) (k:=k1) (x:=x1) (by rw[gQq hk1',hx1])
  have e15:IntKind.i64.wrap ((k1:Int)+1)=((k1+1:Nat):Int):=Xe
  have ho1:=(ha.2.1) x1 (by rw[hx1];exact gMq hk1')
  obtain⟨es1,hlk1⟩:=dw (g:=pH) hk1' hx1 hT12
  simp only[go_sem,au,inL,boL,vc,bT,bU,bS,bK,bV,bO,bR,bP,bQ,bL,bJ,bH,bI,AV.cells,ap,ba,aJ,aK,az,aZ,aL,aU,bc,aP,aQ,aE,ybb,zlc,iNq,ybb,hg1,aZ,ak]
  refine⟨Xa,?_⟩
  rw[show pH x1=((iy x1.name 24).add ((b8 x1.field 2).add (b8 x1.kind 1))) from rfl]at es1 hlk1
  rw[← aI,← aI]at hlk1
  rw[← aI,← aI]at es1
  have hm11:=aT hlk1
  have hm10:=aT hm11
  refine Tq31 ?_
  refine lJ (ho1) ((hW.next _).push2 _ _) hm10 ?_
  rw[hF.p2]
  refine Tq31 ?_
  refine dk (.inr rfl) ((hW.next _).push2 _ _) hm11 ?_
  rw[hF.p2]
  refine Tq31 ?_
  refine dk (.inl rfl) ((hW.next _).push2 _ _) hlk1 ?_
  rw[hF.p2]
  rw[es1]
  refine Tq69 ?_
  refine⟨k1+1,Xa,Xa,eNt (ah (hcl1 _) (jL (x:=au a) fun _=>bZ a)) ?_ ?_ (a:=Xi)⟩
  ·exact Y18
  ·exact Y14
 ·have hk1':k1=a.keys.length:=sHc
  subst hk1'
  rw[List.take_length]
  rw[← hE12]
  refine Tq6 ?_
  refine Ch ((hW.next _).push _) hl3 ?_
  rw[hF.p1]
  refine Tq6 ?_
  refine dk (.inr rfl) ((hW.next _).push _) hl4 ?_
  rw[hF.p1]
  have hE15:(((((((((((s).add (b8 a.id 2))).add (iy a.name 24))).add (bn pH 4 a.keys))).add (bn jP 12 a.actions))).add (b8 a.dflt 2))).add (bn ko 4 a.dargs)=((((((((((((s).add (b8 a.id 2))).add (iy a.name 24))).add (bn pH 4 a.keys))).add (bn jP 12 a.actions))).add (b8 a.dflt 2))).add (dy a.dargs.length 4)).add (bX ko a.dargs):=iq
  have hT15:=hl5
  rw[hE15]at hT15
  have hN15:=gX A2 hT15
  refine Tq6 ?_
  refine mL ((hW.next _).push _) (aT hT15) ?_
  rw[hF.p1]
  refine Tq6 ?_
  refine aG (A:=Nat) (fun k=>[(0,.ptr id 0),(3,.ptr H.nx 0),(55,.slice .any 2 (a.dargs.map (vv))),(56,.int .i64 (a.dargs.length:Int)),(57,.int .i64 (k:Int))]) (fun k=>(swH H id q (((((((((((((s).add (b8 a.id 2))).add (iy a.name 24))).add (bn pH 4 a.keys))).add (bn jP 12 a.actions))).add (b8 a.dflt 2))).add (dy a.dargs.length 4)).add (bX ko (a.dargs.take k)))).push (.cells (bH a))) (fun k=>k≤a.dargs.length) (fun k=>a.dargs.length-k) 0 Xa ?_ fun k1 hk1=>?_
  ·rw[yar,bX,di]
   refine eNt (ah (hcl1 _) (jL (x:=au a) fun _=>bZ a)) ?_ ?_ (a:=Xi)
   ·exact Y16
   ·exact Y14
  refine Tq20 ?_
  refine ax (fun hc=>?_) (fun hc=>?_)
  ·have hk1':k1<a.dargs.length:=sHc
   obtain⟨x1,hx1⟩:∃ x1,x1=a.dargs[k1]:=⟨_,rfl⟩
   have hg1:=cN (f:=vv) (l:=a.dargs) (k:=k1) (x:=x1) (by rw[gQq hk1',hx1])
   have e15:IntKind.i64.wrap ((k1:Int)+1)=((k1+1:Nat):Int):=Xe
   have ho1:=(ha.2.2.1) x1 (by rw[hx1];exact gMq hk1')
   obtain⟨es1,hlk1⟩:=dw (g:=ko) hk1' hx1 hT15
   simp only[go_sem,au,inL,boL,vc,bT,bU,bS,bK,bV,bO,bR,bP,bQ,bL,bJ,bH,bI,AV.cells,ap,ba,aJ,aK,az,aZ,aL,aU,bc,aP,aQ,aE,ybb,zlc,iNq,ybb,hg1,vv,ak]
   refine⟨Xa,?_⟩
   try skip
   refine uD (ho1) ((hW.next _).push2 _ _) hlk1 ?_
   rw[hF.p2]
   rw[es1]
   refine Tq69 ?_
   refine⟨k1+1,Xa,Xa,eNt (ah (hcl1 _) (jL (x:=au a) fun _=>bZ a)) ?_ ?_ (a:=Xi)⟩
   ·exact Y18
   ·exact Y14
  ·have hk1':k1=a.dargs.length:=sHc
   subst hk1'
   rw[List.take_length]
   rw[← hE15]
   refine Tq6 ?_
   refine dk (.inr rfl) ((hW.next _).push _) hl6 ?_
   rw[hF.p1]
   refine Tq6 ?_
   refine lJ (ha.2.2.2) ((hW.next _).push _) hl ?_
   rw[hF.p1]
   refine Tq6 ?_
   exact Y20
abbrev iz(x:Sch):Wz:=(cW x).cells
def mn{n:Nat}(x:Sch):(cW x).lt n:=iC x
def QE:EEe 159 Mh:=by
 unfold Mh
 refine Yef fun _ H K h=>?_
 unfold eW at h
 split at h<;>try exact h.elim
 rename_i id x
 obtain⟨q,s,a,⟨hW,rfl,ha,hl⟩,hK⟩:=h
 refine⟨_,_,hK,?_⟩
 clear hK
 have hF:=hW.facts
 have hcl0:=fun t=>hW.closed (t:=t)
 have hid:=glq hW.o
 have hq:=glq hW.bu
 refine Yfw aD (tCq rj (tCq qW (tCq vL (tCq OZ (tCq uN tNq))))) Tryz.func159 [] Xh (T:=aC []) (h:=fun hcl=>?_)
 have hcl1:=fun t=>hcl0 t hcl
 unfold ky at hl ⊢
 rw[← aI,← aI,← aI,← aI,← aI]at hl ⊢
 have hl4:=aT hl
 have hl3:=aT hl4
 have hl2:=aT hl3
 have hl1:=aT hl2
 have hl0:=aT hl1
 refine Tq10 ?_
 refine dk (.inr rfl) (hW.push _) hl0 ?_
 rw[hF.p0]
 refine Tq10 ?_
 refine lJ (ha) ((hW.next _).push _) hl1 ?_
 rw[hF.p1]
 have hE12:(((((s).add (b8 a.id 2))).add (iy a.name 24))).add (bn jo 8 a.grants)=((((((s).add (b8 a.id 2))).add (iy a.name 24))).add (dy a.grants.length 8)).add (bX jo a.grants):=iq
 have hT12:=hl2
 rw[hE12]at hT12
 have hN12:=gX x7 hT12
 refine Tq10 ?_
 refine mL ((hW.next _).push _) (aT hT12) ?_
 rw[hF.p1]
 refine Tq10 ?_
 refine aG (A:=Nat) (fun k=>[(0,.ptr id 0),(3,.ptr H.nx 0),(22,.slice .any 4 (a.grants.map (aK))),(23,.int .i64 (a.grants.length:Int)),(24,.int .i64 (k:Int))]) (fun k=>(swH H id q (((((((s).add (b8 a.id 2))).add (iy a.name 24))).add (dy a.grants.length 8)).add (bX jo (a.grants.take k)))).push (.cells (bI a))) (fun k=>k≤a.grants.length) (fun k=>a.grants.length-k) 0 Xa ?_ fun k1 hk1=>?_
 ·rw[yar,bX,di]
  refine eNt (ah (hcl1 _) (jL (x:=aP a) fun _=>cB a)) ?_ ?_ (a:=Xi)
  ·exact Y16
  ·exact Y14
 refine Tq20 ?_
 refine ax (fun hc=>?_) (fun hc=>?_)
 ·have hk1':k1<a.grants.length:=sHc
  obtain⟨x1,hx1⟩:∃ x1,x1=a.grants[k1]:=⟨_,rfl⟩
  have hg1:=cN (f:=aK) (l:=a.grants) (k:=k1) (x:=x1) (by rw[gQq hk1',hx1])
  have e15:IntKind.i64.wrap ((k1:Int)+1)=((k1+1:Nat):Int):=Xe
  obtain⟨es1,hlk1⟩:=dw (g:=jo) hk1' hx1 hT12
  simp only[go_sem,aP,inL,boL,vc,bT,bU,bS,bK,bV,bO,bR,bP,bQ,bL,bJ,bH,bI,AV.cells,ap,ba,aJ,aK,az,aZ,aL,aU,bc,aQ,aE,au,ybb,zlc,iNq,ybb,hg1,aK,ak]
  refine⟨Xa,?_⟩
  rw[show jo x1=((b8 x1.table 2).add ((jf x1.read).add ((jf x1.write).add (bn jf 4 x1.keys)))) from rfl]at es1 hlk1
  rw[← aI,← aI,← aI]at hlk1
  rw[← aI,← aI,← aI]at es1
  have hm12:=aT hlk1
  have hm11:=aT hm12
  have hm10:=aT hm11
  refine Tq18 ?_
  refine dk (.inr rfl) ((hW.next _).push2 _ _) hm10 ?_
  rw[hF.p2]
  refine Tq18 ?_
  refine ux ((hW.next _).push2 _ _) hm11 ?_
  rw[hF.p2]
  refine Tq18 ?_
  refine ux ((hW.next _).push2 _ _) hm12 ?_
  rw[hF.p2]
  have hE23:((((((((((((((s).add (b8 a.id 2))).add (iy a.name 24))).add (dy a.grants.length 8)).add (bX jo (a.grants.take k1)))).add (b8 x1.table 2))).add (jf x1.read))).add (jf x1.write))).add (bn jf 4 x1.keys)=(((((((((((((((s).add (b8 a.id 2))).add (iy a.name 24))).add (dy a.grants.length 8)).add (bX jo (a.grants.take k1)))).add (b8 x1.table 2))).add (jf x1.read))).add (jf x1.write))).add (dy x1.keys.length 4)).add (bX jf x1.keys):=iq
  have hT23:=hlk1
  rw[hE23]at hT23
  have hN23:=gX Bo hT23
  refine Tq18 ?_
  refine mL ((hW.next _).push2 _ _) (aT hT23) ?_
  rw[hF.p2]
  refine Tq18 ?_
  refine aG (A:=Nat) (fun k=>[(0,.ptr id 0),(3,.ptr H.nx 0),(22,.slice .any 4 (a.grants.map (aK))),(23,.int .i64 (a.grants.length:Int)),(24,.int .i64 (k1:Int)),(46,.slice .any 1 (x1.keys.map (.bool))),(47,.int .i64 (x1.keys.length:Int)),(48,.int .i64 (k:Int))]) (fun k=>((swH H id q ((((((((((((((((s).add (b8 a.id 2))).add (iy a.name 24))).add (dy a.grants.length 8)).add (bX jo (a.grants.take k1)))).add (b8 x1.table 2))).add (jf x1.read))).add (jf x1.write))).add (dy x1.keys.length 4)).add (bX jf (x1.keys.take k)))).push (.cells (bI a))).push (.cells (bL x1))) (fun k=>k≤x1.keys.length) (fun k=>x1.keys.length-k) 0 Xa ?_ fun k2 hk2=>?_
  ·rw[yar,bX,di]
   refine eNt (ah (ah (hcl1 _) (jL (x:=aP a) fun _=>cB a)) (jL (x:=aK x1) fun _=>cf x1)) ?_ ?_ (a:=Xi)
   ·exact Y16
   ·exact Y14
  refine Tq20 ?_
  refine ax (fun hc=>?_) (fun hc=>?_)
  ·have hk2':k2<x1.keys.length:=sHc
   obtain⟨x2,hx2⟩:∃ x2,x2=x1.keys[k2]:=⟨_,rfl⟩
   have hg2:=cN (f:=.bool) (l:=x1.keys) (k:=k2) (x:=x2) (by rw[gQq hk2',hx2])
   have e25:IntKind.i64.wrap ((k2:Int)+1)=((k2+1:Nat):Int):=Xe
   obtain⟨es2,hlk2⟩:=dw (g:=jf) hk2' hx2 hT23
   simp only[go_sem,aP,inL,boL,vc,bT,bU,bS,bK,bV,bO,bR,bP,bQ,bL,bJ,bH,bI,AV.cells,ap,ba,aJ,aK,az,aZ,aL,aU,bc,aQ,aE,au,ybb,zlc,iNq,ybb,hg1,aK,iNq,ybb,hg2,ak]
   refine⟨Xa,?_⟩
   try skip
   refine ux ((hW.next _).push2 _ _) hlk2 ?_
   rw[hF.p2]
   rw[es2]
   simp only[go_sem,e25]
   refine⟨k2+1,Xa,Xa,eNt (ah (ah (hcl1 _) (jL (x:=aP a) fun _=>cB a)) (jL (x:=aK x1) fun _=>cf x1)) ?_ ?_ (a:=Xi)⟩
   ·exact Y18
   ·exact Y14
  ·have hk2':k2=x1.keys.length:=sHc
   subst hk2'
   rw[List.take_length]
   rw[← hE23]
   rw[es1]
   refine Tq69 ?_
   refine⟨k1+1,Xa,Xa,eNt (ah (hcl1 _) (jL (x:=aP a) fun _=>cB a)) ?_ ?_ (a:=Xi)⟩
   ·exact Y18
   ·exact Y14
 ·have hk1':k1=a.grants.length:=sHc
  subst hk1'
  rw[List.take_length]
  rw[← hE12]
  refine Tq10 ?_
  refine Ch ((hW.next _).push _) hl3 ?_
  rw[hF.p1]
  refine Tq10 ?_
  refine dk (.inr rfl) ((hW.next _).push _) hl4 ?_
  rw[hF.p1]
  refine Tq10 ?_
  refine ux ((hW.next _).push _) hl ?_
  rw[hF.p1]
  refine Tq10 ?_
  exact Y20
def QM:EEe 155 LG:=by
 unfold LG
 refine Yef fun _ H K h=>?_
 unfold eW at h
 split at h<;>try exact h.elim
 rename_i id x
 obtain⟨q,s,a,⟨hW,rfl,ha,hl⟩,hK⟩:=h
 refine⟨_,_,hK,?_⟩
 clear hK
 have hF:=hW.facts
 have hcl0:=fun t=>hW.closed (t:=t)
 have hid:=glq hW.o
 have hq:=glq hW.bu
 refine Yfw aD (tCq rj (tCq qW (tCq vL (tCq uN (tCq zt tNq))))) Tryz.func155 [] Xh (T:=aC []) (h:=fun hcl=>?_)
 have hcl1:=fun t=>hcl0 t hcl
 unfold fH at hl ⊢
 rw[← aI,← aI]at hl ⊢
 have hl1:=aT hl
 have hl0:=aT hl1
 have hE10:(s).add (bn gy 32 a.fields)=((s).add (dy a.fields.length 32)).add (bX gy a.fields):=iq
 have hT10:=hl0
 rw[hE10]at hT10
 have hN10:=gX yD hT10
 refine Tq11 ?_
 refine mL (hW.push _) (aT hT10) ?_
 rw[hF.p0]
 refine Tq11 ?_
 refine aG (A:=Nat) (fun k=>[(0,.ptr id 0),(3,.ptr H.nx 0),(18,.slice .any 3 (a.fields.map (aJ))),(19,.int .i64 (a.fields.length:Int)),(20,.int .i64 (k:Int))]) (fun k=>(swH H id q (((s).add (dy a.fields.length 32)).add (bX gy (a.fields.take k)))).push (.cells (iz a))) (fun k=>k≤a.fields.length) (fun k=>a.fields.length-k) 0 Xa ?_ fun k1 hk1=>?_
 ·rw[yar,bX,di]
  refine eNt (ah (hcl1 _) (jL (x:=cW a) fun _=>mn a)) ?_ ?_ (a:=Xi)
  ·exact Y16
  ·exact Y14
 refine Tq20 ?_
 refine ax (fun hc=>?_) (fun hc=>?_)
 ·have hk1':k1<a.fields.length:=sHc
  obtain⟨x1,hx1⟩:∃ x1,x1=a.fields[k1]:=⟨_,rfl⟩
  have hg1:=cN (f:=aJ) (l:=a.fields) (k:=k1) (x:=x1) (by rw[gQq hk1',hx1])
  have e15:IntKind.i64.wrap ((k1:Int)+1)=((k1+1:Nat):Int):=Xe
  have ho1:=(ha.f) x1 (by rw[hx1];exact gMq hk1')
  obtain⟨es1,hlk1⟩:=dw (g:=gy) hk1' hx1 hT10
  simp only[go_sem,cW,aR,inL,boL,vc,iz,bT,bU,bS,bK,bV,bO,bR,bP,bQ,bL,bJ,bH,bI,AV.cells,ap,ba,aJ,aK,az,aZ,aL,aU,bc,aP,aQ,aE,au,ybb,zlc,iNq,ybb,hg1,aJ,ak]
  refine⟨Xa,?_⟩
  rw[show gy x1=((b8 x1.id 2).add ((iy x1.name 24).add (b8 x1.bits 1))) from rfl]at es1 hlk1
  rw[← aI,← aI]at hlk1
  rw[← aI,← aI]at es1
  have hm11:=aT hlk1
  have hm10:=aT hm11
  refine Tq29 ?_
  refine dk (.inr rfl) ((hW.next _).push2 _ _) hm10 ?_
  rw[hF.p2]
  refine Tq29 ?_
  refine lJ (ho1) ((hW.next _).push2 _ _) hm11 ?_
  rw[hF.p2]
  refine Tq29 ?_
  refine dk (.inl rfl) ((hW.next _).push2 _ _) hlk1 ?_
  rw[hF.p2]
  rw[es1]
  refine Tq69 ?_
  refine⟨k1+1,Xa,Xa,eNt (ah (hcl1 _) (jL (x:=cW a) fun _=>mn a)) ?_ ?_ (a:=Xi)⟩
  ·exact Y18
  ·exact Y14
 ·have hk1':k1=a.fields.length:=sHc
  subst hk1'
  rw[List.take_length]
  rw[← hE10]
  have hE11:(((s).add (bn gy 32 a.fields))).add (bn fT 8 a.headers)=((((s).add (bn gy 32 a.fields))).add (dy a.headers.length 8)).add (bX fT a.headers):=iq
  have hT11:=hl1
  rw[hE11]at hT11
  have hN11:=gX wa hT11
  refine Tq11 ?_
  refine mL ((hW.next _).push _) (aT hT11) ?_
  rw[hF.p1]
  refine Tq11 ?_
  refine aG (A:=Nat) (fun k=>[(0,.ptr id 0),(3,.ptr H.nx 0),(43,.slice .any 3 (a.headers.map (az))),(44,.int .i64 (a.headers.length:Int)),(45,.int .i64 (k:Int))]) (fun k=>(swH H id q (((((s).add (bn gy 32 a.fields))).add (dy a.headers.length 8)).add (bX fT (a.headers.take k)))).push (.cells (iz a))) (fun k=>k≤a.headers.length) (fun k=>a.headers.length-k) 0 Xa ?_ fun k1 hk1=>?_
  ·rw[yar,bX,di]
   refine eNt (ah (hcl1 _) (jL (x:=cW a) fun _=>mn a)) ?_ ?_ (a:=Xi)
   ·exact Y16
   ·exact Y14
  refine Tq20 ?_
  refine ax (fun hc=>?_) (fun hc=>?_)
  ·have hk1':k1<a.headers.length:=sHc
   obtain⟨x1,hx1⟩:∃ x1,x1=a.headers[k1]:=⟨_,rfl⟩
   have hg1:=cN (f:=az) (l:=a.headers) (k:=k1) (x:=x1) (by rw[gQq hk1',hx1])
   have e15:IntKind.i64.wrap ((k1:Int)+1)=((k1+1:Nat):Int):=Xe
   have ho1:=(ha.h) x1 (by rw[hx1];exact gMq hk1')
   obtain⟨es1,hlk1⟩:=dw (g:=fT) hk1' hx1 hT11
   simp only[go_sem,cW,aR,inL,boL,vc,iz,bT,bU,bS,bK,bV,bO,bR,bP,bQ,bL,bJ,bH,bI,AV.cells,ap,ba,aJ,aK,az,aZ,aL,aU,bc,aP,aQ,aE,au,ybb,zlc,iNq,ybb,hg1,az,ak]
   refine⟨Xa,?_⟩
   rw[show fT x1=((b8 x1.id 2).add ((iy x1.name 24).add (bn jP 32 x1.fields))) from rfl]at es1 hlk1
   rw[← aI,← aI]at hlk1
   rw[← aI,← aI]at es1
   have hm11:=aT hlk1
   have hm10:=aT hm11
   refine Tq28 ?_
   refine dk (.inr rfl) ((hW.next _).push2 _ _) hm10 ?_
   rw[hF.p2]
   refine Tq28 ?_
   refine lJ (ho1) ((hW.next _).push2 _ _) hm11 ?_
   rw[hF.p2]
   refine Tq28 ?_
   refine Ch ((hW.next _).push2 _ _) hlk1 ?_
   rw[hF.p2]
   rw[es1]
   refine Tq69 ?_
   refine⟨k1+1,Xa,Xa,eNt (ah (hcl1 _) (jL (x:=cW a) fun _=>mn a)) ?_ ?_ (a:=Xi)⟩
   ·exact Y18
   ·exact Y14
  ·have hk1':k1=a.headers.length:=sHc
   subst hk1'
   rw[List.take_length]
   rw[← hE11]
   have hE12:(((((s).add (bn gy 32 a.fields))).add (bn fT 8 a.headers))).add (bn iD 12 a.states)=((((((s).add (bn gy 32 a.fields))).add (bn fT 8 a.headers))).add (dy a.states.length 12)).add (bX iD a.states):=iq
   have hT12:=hl
   rw[hE12]at hT12
   have hN12:=gX xO hT12
   refine Tq11 ?_
   refine mL ((hW.next _).push _) (aT hT12) ?_
   rw[hF.p1]
   refine Tq11 ?_
   refine aG (A:=Nat) (fun k=>[(0,.ptr id 0),(3,.ptr H.nx 0),(68,.slice .any 5 (a.states.map (aE))),(69,.int .i64 (a.states.length:Int)),(70,.int .i64 (k:Int))]) (fun k=>(swH H id q (((((((s).add (bn gy 32 a.fields))).add (bn fT 8 a.headers))).add (dy a.states.length 12)).add (bX iD (a.states.take k)))).push (.cells (iz a))) (fun k=>k≤a.states.length) (fun k=>a.states.length-k) 0 Xa ?_ fun k1 hk1=>?_
   ·rw[yar,bX,di]
    refine eNt (ah (hcl1 _) (jL (x:=cW a) fun _=>mn a)) ?_ ?_ (a:=Xi)
    ·exact Y16
    ·exact Y14
   refine Tq20 ?_
   refine ax (fun hc=>?_) (fun hc=>?_)
   ·have hk1':k1<a.states.length:=sHc
    obtain⟨x1,hx1⟩:∃ x1,x1=a.states[k1]:=⟨_,rfl⟩
    have hg1:=cN (f:=aE) (l:=a.states) (k:=k1) (x:=x1) (by rw[gQq hk1',hx1])
    have e15:IntKind.i64.wrap ((k1:Int)+1)=((k1+1:Nat):Int):=Xe
    have ho1:=(ha.s) x1 (by rw[hx1];exact gMq hk1')
    obtain⟨es1,hlk1⟩:=dw (g:=iD) hk1' hx1 hT12
    simp only[go_sem,cW,aR,inL,boL,vc,iz,bT,bU,bS,bK,bV,bO,bR,bP,bQ,bL,bJ,bH,bI,AV.cells,ap,ba,aJ,aK,az,aZ,aL,aU,bc,aP,aQ,aE,au,ybb,zlc,iNq,ybb,hg1,aE,ak]
    refine⟨Xa,?_⟩
    rw[show iD x1=((b8 x1.id 2).add ((b8 x1.header 2).add ((b8 x1.select 2).add ((bn mu 6 x1.cases).add (b8 x1.dflt 2))))) from rfl]at es1 hlk1
    rw[← aI,← aI,← aI,← aI]at hlk1
    rw[← aI,← aI,← aI,← aI]at es1
    have hm13:=aT hlk1
    have hm12:=aT hm13
    have hm11:=aT hm12
    have hm10:=aT hm11
    refine Tq13 ?_
    refine dk (.inr rfl) ((hW.next _).push2 _ _) hm10 ?_
    rw[hF.p2]
    refine Tq13 ?_
    refine dk (.inr rfl) ((hW.next _).push2 _ _) hm11 ?_
    rw[hF.p2]
    refine Tq13 ?_
    refine dk (.inr rfl) ((hW.next _).push2 _ _) hm12 ?_
    rw[hF.p2]
    have hE23:((((((((((((((s).add (bn gy 32 a.fields))).add (bn fT 8 a.headers))).add (dy a.states.length 12)).add (bX iD (a.states.take k1)))).add (b8 x1.id 2))).add (b8 x1.header 2))).add (b8 x1.select 2))).add (bn mu 6 x1.cases)=(((((((((((((((s).add (bn gy 32 a.fields))).add (bn fT 8 a.headers))).add (dy a.states.length 12)).add (bX iD (a.states.take k1)))).add (b8 x1.id 2))).add (b8 x1.header 2))).add (b8 x1.select 2))).add (dy x1.cases.length 6)).add (bX mu x1.cases):=iq
    have hT23:=hm13
    rw[hE23]at hT23
    have hN23:=gX Bu hT23
    refine Tq13 ?_
    refine mL ((hW.next _).push2 _ _) (aT hT23) ?_
    rw[hF.p2]
    refine Tq13 ?_
    refine aG (A:=Nat) (fun k=>[(0,.ptr id 0),(3,.ptr H.nx 0),(68,.slice .any 5 (a.states.map (aE))),(69,.int .i64 (a.states.length:Int)),(70,.int .i64 (k1:Int)),(9,.ptr (H.nx+1) 0),(92,.slice .any 5 (x1.cases.map (ba))),(93,.int .i64 (x1.cases.length:Int)),(94,.int .i64 (k:Int))]) (fun k=>((swH H id q ((((((((((((((((s).add (bn gy 32 a.fields))).add (bn fT 8 a.headers))).add (dy a.states.length 12)).add (bX iD (a.states.take k1)))).add (b8 x1.id 2))).add (b8 x1.header 2))).add (b8 x1.select 2))).add (dy x1.cases.length 6)).add (bX mu (x1.cases.take k)))).push (.cells (iz a))).push (.cells (bK x1))) (fun k=>k≤x1.cases.length) (fun k=>x1.cases.length-k) 0 Xa ?_ fun k2 hk2=>?_
    ·rw[yar,bX,di]
     refine eNt (ah (ah (hcl1 _) (jL (x:=cW a) fun _=>mn a)) (jL (x:=aE x1) fun _=>cg x1)) ?_ ?_ (a:=Xi)
     ·exact Y16
     ·exact Y14
    refine Tq20 ?_
    refine ax (fun hc=>?_) (fun hc=>?_)
    ·have hk2':k2<x1.cases.length:=sHc
     obtain⟨x2,hx2⟩:∃ x2,x2=x1.cases[k2]:=⟨_,rfl⟩
     have hg2:=cN (f:=ba) (l:=x1.cases) (k:=k2) (x:=x2) (by rw[gQq hk2',hx2])
     have e25:IntKind.i64.wrap ((k2:Int)+1)=((k2+1:Nat):Int):=Xe
     have ho2:=(ho1) x2 (by rw[hx2];exact gMq hk2')
     obtain⟨es2,hlk2⟩:=dw (g:=mu) hk2' hx2 hT23
     simp only[go_sem,cW,aR,inL,boL,vc,iz,bT,bU,bS,bK,bV,bO,bR,bP,bQ,bL,bJ,bH,bI,AV.cells,ap,ba,aJ,aK,az,aZ,aL,aU,bc,aP,aQ,aE,au,ybb,zlc,iNq,ybb,hg1,aE,iNq,ybb,hg2,ba,vc,ak]
     refine⟨Xa,?_⟩
     rw[show mu x2=((ko x2.value).add ((ko x2.mask).add (b8 x2.next 2))) from rfl]at es2 hlk2
     rw[← aI,← aI]at hlk2
     rw[← aI,← aI]at es2
     have hm21:=aT hlk2
     have hm20:=aT hm21
     refine Tq24 ?_
     refine uD (ho2.1) ((hW.next _).push3 _ _ _) hm20 ?_
     rw[hF.p3]
     refine Tq24 ?_
     refine uD (ho2.2) ((hW.next _).push3 _ _ _) hm21 ?_
     rw[hF.p3]
     refine Tq24 ?_
     refine dk (.inr rfl) ((hW.next _).push3 _ _ _) hlk2 ?_
     rw[hF.p3]
     rw[es2]
     simp only[go_sem,e25]
     refine⟨k2+1,Xa,Xa,eNt (ah (ah (hcl1 _) (jL (x:=cW a) fun _=>mn a)) (jL (x:=aE x1) fun _=>cg x1)) ?_ ?_ (a:=Xi)⟩
     ·exact Y18
     ·exact Y14
    ·have hk2':k2=x1.cases.length:=sHc
     subst hk2'
     rw[List.take_length]
     rw[← hE23]
     refine Tq13 ?_
     refine dk (.inr rfl) ((hW.next _).push2 _ _) hlk1 ?_
     rw[hF.p2]
     rw[es1]
     refine Tq69 ?_
     refine⟨k1+1,Xa,Xa,eNt (ah (hcl1 _) (jL (x:=cW a) fun _=>mn a)) ?_ ?_ (a:=Xi)⟩
     ·exact Y18
     ·exact Y14
   ·have hk1':k1=a.states.length:=sHc
    subst hk1'
    rw[List.take_length]
    rw[← hE12]
    refine Tq11 ?_
    exact Y20
end Go.AL
