/- Lemmas of the proof; no condition. -/
import Derived.Test.YthnlhjalhflgfaaGreatW03e
set_option linter.all false
set_option maxRecDepth 10000
set_option maxHeartbeats 32000000
open List renaming length_cons → yaz, length_nil → yba, take_of_length_le → ybc, drop_append → ybd, take_append → ybe, drop_eq_nil_of_le → ybf, length_map → ybb, take_zero → yar
open Go Go.AL Go.Proofs
namespace Go.AL
theorem FH:ti Tryz.prog 134=some ⟨.struct [(0,3,false),(1,131,false),(2,132,false)],3,24,.agg [.int .i64 0,.nilf,.nilf]⟩:=krf
theorem G6:tFn Tryz.prog 131:=kFn
theorem JG:tFn Tryz.prog 132:=kFn
theorem Fh:ti Tryz.prog 140=some ⟨.struct [(0,3,false),(1,137,false),(2,138,false)],3,24,.agg [.int .i64 0,.nilf,.nilf]⟩:=krf
theorem G0:tFn Tryz.prog 137:=kFn
theorem J5:tFn Tryz.prog 138:=kFn
theorem EX:ti Tryz.prog 146=some ⟨.struct [(0,3,false),(1,143,false),(2,144,false)],3,24,.agg [.int .i64 0,.nilf,.nilf]⟩:=krf
theorem IO:tFn Tryz.prog 143:=kFn
theorem JR:tFn Tryz.prog 144:=kFn
theorem F6:ti Tryz.prog 295=some ⟨.struct [(0,3,false),(1,292,false),(2,293,false)],3,24,.agg [.int .i64 0,.nilf,.nilf]⟩:=krf
theorem Jg:tFn Tryz.prog 292:=kFn
theorem JM:tFn Tryz.prog 293:=kFn
attribute [go_sem] FH G6 JG Fh G0 J5 EX IO JR F6 Jg JM
def DP:=eW (az) u0 fX
def Js:=mH 196 3 (az) u0 fX
theorem IM:EEe 196 DP:=by
 unfold DP
 refine Yef fun _ H K h=>?_
 unfold eW at h
 split at h<;>try exact h.elim
 rename_i id x
 obtain ⟨q,s,a,⟨hW,rfl,ha,hl⟩,hK⟩:=h
 refine ⟨_,_,hK,?_⟩
 clear hK
 have hF:=hW.facts
 have hcl0:=hW.closed (t:=s.add (fX a))
 have hid:=glq hW.o
 have hq:=glq hW.bu
 refine Yfw aC (tCq jc (tCq ou (tCq uk (tCq rZ tNq)))) Tryz.func196 [] (by rw [ak];omega) (T:=aA [(3,[[],[],[],[],[1,3]])]) (h:=fun hcl=>?_)
 have hcl1:=hcl0 hcl
 unfold fX at hl hcl1 ⊢
 rw [← aG,← aG] at hl hcl1 ⊢
 have hl3:=hl
 have hl2:=aQ hl3
 have hl1:=aQ hl2
 simp only [go_sem,az,fV,inL,ak,bb]
 refine cY (.inr rfl) (hW.push _) hl1 ?_
 rw [hF.p0]
 simp only [go_sem,az,fV,inL,ak,bb]
 refine kY (ha) ((hW.next _).push _) hl2 ?_
 rw [hF.p1]
 simp only [go_sem,az,fV,inL,ak,bb]
 refine kV (c:=.int .i64) (fun _ _=>trivial) ((hW.next _).push _) hl3 ?_
 rw [hF.p1]
 try simp only [go_sem,az,fV,inL,ak,bb]
 exact Z16
theorem Ez:EEe 61 Js:=lh vZ (fun _ x=>b9 x) (fun _=>⟨_,rfl,rfl,rfl⟩) fun wf sz c ok g ew es ec eo eg hone hlt' hag id most r q s l H hW ha hl=>by
 refine ACalls.fW aC (tCq df (tCq IM tNq)) Tryz.func61 [] (by rw [ak];omega) (T:=aA [(2,[[],[],[],[],[],[],[],[],[4,7],[],[],[4,7]])]) (h:=fun hcl hlt=>?_)
 exact Y0
def j2:PCt
 |[],_,K=>K (.agg (cm 8 196 199))
 |_,_,_=>False
theorem Jz:EPp 62 j2:=by
 refine Ype fun _ H K h=>?_
 unfold j2 at h
 split at h<;>try exact h.elim
 refine ⟨_,h,?_⟩
 refine Yfv aC tNq Tryz.func62 [.cell 0 134] fun hcl hlt=>?_
 exact Y48
def D1:=eW (aB) nZ iW
def IX:=mH 201 5 (aB) nZ iW
theorem Iz:EEe 201 D1:=by
 unfold D1
 refine Yef fun _ H K h=>?_
 unfold eW at h
 split at h<;>try exact h.elim
 rename_i id x
 obtain ⟨q,s,a,⟨hW,rfl,ha,hl⟩,hK⟩:=h
 refine ⟨_,_,hK,?_⟩
 clear hK
 have hF:=hW.facts
 have hcl0:=hW.closed (t:=s.add (iW a))
 have hid:=glq hW.o
 have hq:=glq hW.bu
 refine Yfw aC (tCq jc (tCq Kj (tCq Fy tNq))) Tryz.func201 [] (by rw [ak];omega) (T:=aA [(4,[[],[],[],[],[1,3]])]) (h:=fun hcl=>?_)
 have hcl1:=hcl0 hcl
 unfold iW at hl hcl1 ⊢
 rw [← aG,← aG,← aG,← aG] at hl hcl1 ⊢
 have hl5:=hl
 have hl4:=aQ hl5
 have hl3:=aQ hl4
 have hl2:=aQ hl3
 have hl1:=aQ hl2
 simp only [go_sem,aB,ng,ak,bb]
 refine cY (.inr rfl) (hW.push _) hl1 ?_
 rw [hF.p0]
 simp only [go_sem,aB,ng,ak,bb]
 refine cY (.inr rfl) ((hW.next _).push _) hl2 ?_
 rw [hF.p1]
 simp only [go_sem,aB,ng,ak,bb]
 refine cY (.inr rfl) ((hW.next _).push _) hl3 ?_
 rw [hF.p1]
 simp only [go_sem,aB,ng,ak,bb]
 refine kV (c:=aX) (ha) ((hW.next _).push _) hl4 ?_
 rw [hF.p1]
 simp only [go_sem,aB,ng,ak,bb]
 refine cY (.inr rfl) ((hW.next _).push _) hl5 ?_
 rw [hF.p1]
 try simp only [go_sem,aB,ng,ak,bb]
 exact Z16
theorem El:EEe 63 IX:=lh wU (fun _ x=>cj x) (fun _=>⟨_,rfl,rfl,rfl⟩) fun wf sz c ok g ew es ec eo eg hone hlt' hag id most r q s l H hW ha hl=>by
 refine ACalls.fW aC (tCq df (tCq Iz tNq)) Tryz.func63 [] (by rw [ak];omega) (T:=aA [(2,[[],[],[],[],[],[],[],[],[4,7],[],[],[4,7]])]) (h:=fun hcl hlt=>?_)
 exact Y0
def j8:PCt
 |[],_,K=>K (.agg (cm 12 201 204))
 |_,_,_=>False
theorem Ib:EPp 64 j8:=by
 refine Ype fun _ H K h=>?_
 unfold j8 at h
 split at h<;>try exact h.elim
 refine ⟨_,h,?_⟩
 refine Yfv aC tNq Tryz.func64 [.cell 0 140] fun hcl hlt=>?_
 exact Y48
def DL:=eW (ap) nN eM
def JZ:=mH 206 5 (ap) nN eM
theorem G1:EEe 206 DL:=by
 unfold DL
 refine Yef fun _ H K h=>?_
 unfold eW at h
 split at h<;>try exact h.elim
 rename_i id x
 obtain ⟨q,s,a,⟨hW,rfl,ha,hl⟩,hK⟩:=h
 refine ⟨_,_,hK,?_⟩
 clear hK
 have hF:=hW.facts
 have hcl0:=hW.closed (t:=s.add (eM a))
 have hid:=glq hW.o
 have hq:=glq hW.bu
 refine Yfw aC (tCq jc (tCq ou (tCq Lf (tCq FG (tCq Kn (tCq FM tNq)))))) Tryz.func206 [] (by rw [ak];omega) (T:=aA [(3,[[],[],[],[],[1,3]]),(4,[[],[],[],[],[1,3]])]) (h:=fun hcl=>?_)
 have hcl1:=hcl0 hcl
 unfold eM at hl hcl1 ⊢
 rw [← aG,← aG,← aG,← aG] at hl hcl1 ⊢
 have hl5:=hl
 have hl4:=aQ hl5
 have hl3:=aQ hl4
 have hl2:=aQ hl3
 have hl1:=aQ hl2
 simp only [go_sem,ap,m8,mZ,ak,bb]
 refine cY (.inr rfl) (hW.push _) hl1 ?_
 rw [hF.p0]
 simp only [go_sem,ap,m8,mZ,ak,bb]
 refine kY (ha.1) ((hW.next _).push _) hl2 ?_
 rw [hF.p1]
 simp only [go_sem,ap,m8,mZ,ak,bb]
 refine kV (c:=aK) (ha.2.1) ((hW.next _).push _) hl3 ?_
 rw [hF.p1]
 simp only [go_sem,ap,m8,mZ,ak,bb]
 refine kV (c:=aT) (ha.2.2.1) ((hW.next _).push _) hl4 ?_
 rw [hF.p1]
 simp only [go_sem,ap,m8,mZ,ak,bb]
 refine kY (ha.2.2.2) ((hW.next _).push _) hl5 ?_
 rw [hF.p1]
 try simp only [go_sem,ap,m8,mZ,ak,bb]
 exact Z16
theorem EY:EEe 65 JZ:=lh vL (fun _ x=>bK x) (fun _=>⟨_,rfl,rfl,rfl⟩) fun wf sz c ok g ew es ec eo eg hone hlt' hag id most r q s l H hW ha hl=>by
 refine ACalls.fW aC (tCq df (tCq G1 tNq)) Tryz.func65 [] (by rw [ak];omega) (T:=aA [(2,[[],[],[],[],[],[],[],[],[4,7],[],[],[4,7]])]) (h:=fun hcl hlt=>?_)
 exact Y0
def jZ:PCt
 |[],_,K=>K (.agg (cm 12 206 211))
 |_,_,_=>False
theorem KN:EPp 66 jZ:=by
 refine Ype fun _ H K h=>?_
 unfold jZ at h
 split at h<;>try exact h.elim
 refine ⟨_,h,?_⟩
 refine Yfv aC tNq Tryz.func66 [.cell 0 146] fun hcl hlt=>?_
 exact Y48
def DY:=eW (aJ) rN jA
def GL:=mH 312 4 (aJ) rN jA
theorem GW:EEe 312 DY:=by
 unfold DY
 refine Yef fun _ H K h=>?_
 unfold eW at h
 split at h<;>try exact h.elim
 rename_i id x
 obtain ⟨q,s,a,⟨hW,rfl,ha,hl⟩,hK⟩:=h
 refine ⟨_,_,hK,?_⟩
 clear hK
 have hF:=hW.facts
 have hcl0:=hW.closed (t:=s.add (jA a))
 have hid:=glq hW.o
 have hq:=glq hW.bu
 refine Yfw aC (tCq jc (tCq xS (tCq GO (tCq F4 tNq)))) Tryz.func312 [] (by rw [ak];omega) (T:=aA [(4,[[],[],[],[],[1,3]])]) (h:=fun hcl=>?_)
 have hcl1:=hcl0 hcl
 unfold jA at hl hcl1 ⊢
 rw [← aG,← aG,← aG] at hl hcl1 ⊢
 have hl4:=hl
 have hl3:=aQ hl4
 have hl2:=aQ hl3
 have hl1:=aQ hl2
 simp only [go_sem,aJ,oH,boL,ak,bb]
 refine cY (.inr rfl) (hW.push _) hl1 ?_
 rw [hF.p0]
 simp only [go_sem,aJ,oH,boL,ak,bb]
 refine tt ((hW.next _).push _) hl2 ?_
 rw [hF.p1]
 simp only [go_sem,aJ,oH,boL,ak,bb]
 refine tt ((hW.next _).push _) hl3 ?_
 rw [hF.p1]
 simp only [go_sem,aJ,oH,boL,ak,bb]
 refine kV (c:=.bool) (fun _ _=>trivial) ((hW.next _).push _) hl4 ?_
 rw [hF.p1]
 try simp only [go_sem,aJ,oH,boL,ak,bb]
 exact Z16
theorem FO:EEe 225 GL:=lh w7 (fun _ x=>cg x) (fun _=>⟨_,rfl,rfl,rfl⟩) fun wf sz c ok g ew es ec eo eg hone hlt' hag id most r q s l H hW ha hl=>by
 refine ACalls.fW aC (tCq df (tCq GW tNq)) Tryz.func225 [] (by rw [ak];omega) (T:=aA [(2,[[],[],[],[],[],[],[],[],[4,7],[],[],[4,7]])]) (h:=fun hcl hlt=>?_)
 exact Y0
def me:PCt
 |[],_,K=>K (.agg (cm 8 312 315))
 |_,_,_=>False
theorem Gm:EPp 226 me:=by
 refine Ype fun _ H K h=>?_
 unfold me at h
 split at h<;>try exact h.elim
 refine ⟨_,h,?_⟩
 refine Yfv aC tNq Tryz.func226 [.cell 0 295] fun hcl hlt=>?_
 exact Y48
theorem FK:ti Tryz.prog 152=some ⟨.struct [(0,3,false),(1,149,false),(2,150,false)],3,24,.agg [.int .i64 0,.nilf,.nilf]⟩:=krf
theorem K5:tFn Tryz.prog 149:=kFn
theorem Kv:tFn Tryz.prog 150:=kFn
theorem Fe:ti Tryz.prog 164=some ⟨.struct [(0,3,false),(1,161,false),(2,162,false)],3,24,.agg [.int .i64 0,.nilf,.nilf]⟩:=krf
theorem Ki:tFn Tryz.prog 161:=kFn
theorem KK:tFn Tryz.prog 162:=kFn
attribute [go_sem] FK K5 Kv Fe Ki KK
def CL:=eW (ax) pM gH
def LA:=mH 214 8 (ax) pM gH
theorem Kl:EEe 214 CL:=by
 unfold CL
 refine Yef fun _ H K h=>?_
 unfold eW at h
 split at h<;>try exact h.elim
 rename_i id x
 obtain ⟨q,s,a,⟨hW,rfl,ha,hl⟩,hK⟩:=h
 refine ⟨_,_,hK,?_⟩
 clear hK
 have hF:=hW.facts
 have hcl0:=hW.closed (t:=s.add (gH a))
 have hid:=glq hW.o
 have hq:=glq hW.bu
 refine Yfw aC (tCq jc (tCq ou (tCq HA (tCq EQ (tCq uk (tCq rZ (tCq J8 (tCq EW tNq)))))))) Tryz.func214 [] (by rw [ak];omega) (T:=aA [(3,[[],[],[],[],[1,3]]),(4,[[],[],[],[],[1,3]]),(6,[[],[],[],[],[1,3]])]) (h:=fun hcl=>?_)
 have hcl1:=hcl0 hcl
 unfold gH at hl hcl1 ⊢
 rw [← aG,← aG,← aG,← aG,← aG,← aG,← aG] at hl hcl1 ⊢
 have hl8:=hl
 have hl7:=aQ hl8
 have hl6:=aQ hl7
 have hl5:=aQ hl6
 have hl4:=aQ hl5
 have hl3:=aQ hl4
 have hl2:=aQ hl3
 have hl1:=aQ hl2
 refine Tq29 ?_
 refine cY (.inr rfl) (hW.push _) hl1 ?_
 rw [hF.p0]
 refine Tq29 ?_
 refine kY (ha.1) ((hW.next _).push _) hl2 ?_
 rw [hF.p1]
 refine Tq29 ?_
 refine kV (c:=aY) (ha.2.1) ((hW.next _).push _) hl3 ?_
 rw [hF.p1]
 refine Tq29 ?_
 refine kV (c:=.int .i64) (fun _ _=>trivial) ((hW.next _).push _) hl4 ?_
 rw [hF.p1]
 refine Tq29 ?_
 refine cY (.inr rfl) ((hW.next _).push _) hl5 ?_
 rw [hF.p1]
 refine Tq29 ?_
 refine kV (c:=vv) (ha.2.2.1) ((hW.next _).push _) hl6 ?_
 rw [hF.p1]
 refine Tq29 ?_
 refine cY (.inr rfl) ((hW.next _).push _) hl7 ?_
 rw [hF.p1]
 refine Tq29 ?_
 refine kY (ha.2.2.2) ((hW.next _).push _) hl8 ?_
 rw [hF.p1]
 try simp only [go_sem,ax,fV,kx,kS,inL,ak,bb]
 exact Z16
theorem FD:EEe 67 LA:=lh wZ (fun _ x=>cb x) (fun _=>⟨_,rfl,rfl,rfl⟩) fun wf sz c ok g ew es ec eo eg hone hlt' hag id most r q s l H hW ha hl=>by
 refine ACalls.fW aC (tCq df (tCq Kl tNq)) Tryz.func67 [] (by rw [ak];omega) (T:=aA [(2,[[],[],[],[],[],[],[],[],[4,7],[],[],[4,7]])]) (h:=fun hcl hlt=>?_)
 exact Y0
def j3:PCt
 |[],_,K=>K (.agg (cm 8 214 219))
 |_,_,_=>False
theorem Gl:EPp 68 j3:=by
 refine Ype fun _ H K h=>?_
 unfold j3 at h
 split at h<;>try exact h.elim
 refine ⟨_,h,?_⟩
 refine Yfv aC tNq Tryz.func68 [.cell 0 152] fun hcl hlt=>?_
 exact Y48
def CY:=eW (aN) y0 ky
def JF:=mH 224 6 (aN) y0 ky
theorem Hx:EEe 224 CY:=by
 unfold CY
 refine Yef fun _ H K h=>?_
 unfold eW at h
 split at h<;>try exact h.elim
 rename_i id x
 obtain ⟨q,s,a,⟨hW,rfl,ha,hl⟩,hK⟩:=h
 refine ⟨_,_,hK,?_⟩
 clear hK
 have hF:=hW.facts
 have hcl0:=hW.closed (t:=s.add (ky a))
 have hid:=glq hW.o
 have hq:=glq hW.bu
 refine Yfw aC (tCq jc (tCq ou (tCq Gm (tCq FO (tCq uk (tCq rZ (tCq xS tNq))))))) Tryz.func224 [] (by rw [ak];omega) (T:=aA [(3,[[],[],[],[],[1,3]]),(4,[[],[],[],[],[1,3]])]) (h:=fun hcl=>?_)
 have hcl1:=hcl0 hcl
 unfold ky at hl hcl1 ⊢
 rw [← aG,← aG,← aG,← aG,← aG] at hl hcl1 ⊢
 have hl6:=hl
 have hl5:=aQ hl6
 have hl4:=aQ hl5
 have hl3:=aQ hl4
 have hl2:=aQ hl3
 have hl1:=aQ hl2
 refine Tq48 ?_
 refine cY (.inr rfl) (hW.push _) hl1 ?_
 rw [hF.p0]
 refine Tq48 ?_
 refine kY (ha) ((hW.next _).push _) hl2 ?_
 rw [hF.p1]
 refine Tq48 ?_
 refine kV (c:=aJ) (fun _ _=>trivial) ((hW.next _).push _) hl3 ?_
 rw [hF.p1]
 refine Tq48 ?_
 refine kV (c:=.int .i64) (fun _ _=>trivial) ((hW.next _).push _) hl4 ?_
 rw [hF.p1]
 refine Tq48 ?_
 refine cY (.inr rfl) ((hW.next _).push _) hl5 ?_
 rw [hF.p1]
 refine Tq48 ?_
 refine tt ((hW.next _).push _) hl6 ?_
 rw [hF.p1]
 try simp only [go_sem,aN,me,fV,inL,ak,bb]
 exact Z16
theorem EV:EEe 71 JF:=lh zO (fun _ x=>cy x) (fun _=>⟨_,rfl,rfl,rfl⟩) fun wf sz c ok g ew es ec eo eg hone hlt' hag id most r q s l H hW ha hl=>by
 refine ACalls.fW aC (tCq df (tCq Hx tNq)) Tryz.func71 [] (by rw [ak];omega) (T:=aA [(2,[[],[],[],[],[],[],[],[],[4,7],[],[],[4,7]])]) (h:=fun hcl hlt=>?_)
 exact Y0
def j0:PCt
 |[],_,K=>K (.agg (cm 6 224 228))
 |_,_,_=>False
theorem Jv:EPp 72 j0:=by
 refine Ype fun _ H K h=>?_
 unfold j0 at h
 split at h<;>try exact h.elim
 refine ⟨_,h,?_⟩
 refine Yfv aC tNq Tryz.func72 [.cell 0 164] fun hcl hlt=>?_
 exact Y48
theorem OZ:ti Tryz.prog 231=some ⟨.struct [(0,22,false),(1,4,false),(2,4,false),(3,4,false)],4,32,.agg [.slice .nil 1 [],.bool false,.bool false,.bool false]⟩:=krf
theorem H4:ti Tryz.prog 229=some ⟨.ptr 231,1,8,.nilp⟩:=krf
attribute [go_sem] OZ H4
theorem FT (l:List UInt8):l.any lQ=!lm l:=by
 unfold lm
 rw [List.not_all_eq_any_not]
 congr 1
 funext c
 have e1:(((c.toNat:Int)<32))=(c.toNat<32):=by rw [show ((32:Int))=((32:Nat):Int) from rfl,Int.ofNat_lt]
 have e2:(((c.toNat:Int) > 126))=(126<c.toNat):=by rw [show ((126:Int))=((126:Nat):Int) from rfl,gt_iff_lt,Int.ofNat_lt]
 simp only [lQ,Bool.not_not,e1,e2]
def KT:=vD
theorem L5:EEe 283 KT:=by
 unfold KT
 refine Yef fun _ H K h=>?_
 unfold vD at h
 split at h<;>try exact h.elim
 rename_i id x
 obtain ⟨q,s,⟨hW,hl⟩,hK⟩:=h
 refine ⟨_,_,hK,?_⟩
 clear hK
 replace hl:=aQ hl
 rw [bL] at hl
 have hcl0:=fun t=>hW.closed (t:=t)
 obtain ⟨b,sl,sf,sa⟩:=s
 have hid:=glq hW.o
 have hq:=glq hW.bu
 have hne:=cN hid
 have hneq:=cN hq
 have n1:(id=q)=False:=eq_false hW.ne
 have n2:(q=id)=False:=eq_false fun e=>hW.ne e.symm
 have hcs:=aM hW.o
 have hb0:=hW.bu
 have hi0:=hW.o
 have hnn:=hW.ne
 dsimp only at hcs hb0 hi0 hl
 refine Yfw aC (tCq GU tNq) Tryz.func283 [] (by rw [ak];omega) (T:=aA []) (h:=fun hcl=>?_)
 have hcl1:=fun t=>hcl0 t hcl
 have hcm:=fun cs=>@bM H id cs hid
 have hA:=fun X Y=>@cr H id q X Y hnn hid
 have hA0:∀ Y,aW (H.set q Y) id=aW H id:=fun Y=>by
  exact Y81
 have hB:=fun X=>di (X:=X) hnn hb0
 have eh:=fun X Y Z=>@dh H id q X Y Z
 have hcl9:=hcl1 ((⟨b,sl,sf,sa⟩:Enc).add (ja x))
 simp only [swH,Enc.add,ja,Bool.or_false,lAq,List.length_singleton] at hcl9 ⊢
 simp only [go_sem,byq,hne,hneq,n1,n2,hcs,hcm,hA,hA0,hB,eh,hi0,hb0,zlz,zlk,zmb,true_and,yz]
 (repeat with_reducible refine And.intro (by first|assumption|decide|omega|exact ⟨by omega,by omega⟩|exact ⟨by omega,by omega,by omega⟩|exact ⟨by omega,hb0⟩|exact ⟨by omega,hB _⟩|exact ⟨by omega,by omega,hb0⟩|exact ⟨by omega,by omega,hB _⟩) ?_)
 exact Y67
def Hd:=vq
theorem yU:EEe 282 Hd:=by
 unfold Hd
 refine Yef fun _ H K h=>?_
 unfold vq at h
 split at h<;>try exact h.elim
 rename_i id hi lo
 obtain ⟨q,s,v,⟨hW,hv,rfl,rfl,hl⟩,hK⟩:=h
 refine ⟨_,_,hK,?_⟩
 clear hK
 have iv:=Dd hv
 replace hl:=aQ hl
 rw [bL] at hl
 have hcl0:=fun t=>hW.closed (t:=t)
 obtain ⟨b,sl,sf,sa⟩:=s
 have hid:=glq hW.o
 have hq:=glq hW.bu
 have hne:=cN hid
 have hneq:=cN hq
 have n1:(id=q)=False:=eq_false hW.ne
 have n2:(q=id)=False:=eq_false fun e=>hW.ne e.symm
 have hcs:=aM hW.o
 have hb0:=hW.bu
 have hi0:=hW.o
 have hnn:=hW.ne
 dsimp only at hcs hb0 hi0 hl
 refine Yfw aC (tCq Fx tNq) Tryz.func282 [] (by rw [ak];omega) (T:=aA [(1,[[],[],[],[],[],[],[4,5],[],[],[4,5,6]])]) (h:=fun hcl=>?_)
 have hcl1:=fun t=>hcl0 t hcl
 have hcm:=fun cs=>@bM H id cs hid
 have hA:=fun X Y=>@cr H id q X Y hnn hid
 have hA0:∀ Y,aW (H.set q Y) id=aW H id:=fun Y=>by
  exact Y81
 have hB:=fun X=>di (X:=X) hnn hb0
 have eh:=fun X Y Z=>@dh H id q X Y Z
 have hcl9:=hcl1 ((⟨b,sl,sf,sa⟩:Enc).add (jY v))
 simp only [swH,Enc.add,jY,Bool.or_false,lAq] at hcl9 ⊢
 simp only [go_sem,byq,hne,hneq,n1,n2,hcs,hcm,hA,hA0,hB,eh,hi0,hb0,zlz,zlk,zmb,true_and,u9,iv,iNq,jV]
 (repeat with_reducible refine And.intro (by first|assumption|decide|omega|exact ⟨by omega,by omega⟩|exact ⟨by omega,by omega,by omega⟩|exact ⟨by omega,hb0⟩|exact ⟨by omega,hB _⟩|exact ⟨by omega,by omega,hb0⟩|exact ⟨by omega,by omega,hB _⟩) ?_)
 exact Y67
def JO:=vj
theorem qg:EEe 164 JO:=by
 unfold JO
 refine Yef fun _ H K h=>?_
 unfold vj at h
 split at h<;>try exact h.elim
 rename_i id n w
 obtain ⟨q,s,⟨hW,hw,hl⟩,hK⟩:=h
 refine ⟨_,_,hK,?_⟩
 clear hK
 have hcl0:=fun t=>hW.closed (t:=t)
 obtain ⟨b,sl,sf,sa⟩:=s
 have hid:=glq hW.o
 have hq:=glq hW.bu
 have hne:=cN hid
 have hneq:=cN hq
 have n1:(id=q)=False:=eq_false hW.ne
 have n2:(q=id)=False:=eq_false fun e=>hW.ne e.symm
 have hcs:=aM hW.o
 have hb0:=hW.bu
 have hi0:=hW.o
 have hnn:=hW.ne
 dsimp only at hcs hb0 hi0 hl
 refine Yfw aC (tCq vQ tNq) Tryz.func164 [] (by rw [ak];omega) (T:=aA []) (h:=fun hcl=>?_)
 have hcl1:=fun t=>hcl0 t hcl
 have hcm:=fun cs=>@bM H id cs hid
 have hA:=fun X Y=>@cr H id q X Y hnn hid
 have hA0:∀ Y,aW (H.set q Y) id=aW H id:=fun Y=>by
  exact Y81
 have hB:=fun X=>di (X:=X) hnn hb0
 have eh:=fun X Y Z=>@dh H id q X Y Z
 have hcl9:=hcl1 ((⟨b,sl,sf,sa⟩:Enc).add (cf n w))
 have s1:IntKind.u64.wrap (IntKind.i64.wrap 8)=8:=by decide
 have s2:sJ .i64 1 8=256:=by decide
 have s3:IntKind.u64.wrap (IntKind.i64.wrap 16)=16:=by decide
 have s4:sJ .i64 1 16=65536:=by decide
 simp only [swH,Enc.add,cf,Bool.or_false,lAq] at hcl9 ⊢
 by_cases h0:n<0
 ·have d0:decide (n<0)=true:=dtq h0
  rw [GI h0,Bool.not_false,Bool.or_true] at hcl9 ⊢
  simp only [go_sem,byq,hne,hneq,n1,n2,hcs,hcm,hA,hA0,hB,eh,hi0,hb0,zlz,zlk,zmb,true_and,oc,d0]
  (repeat with_reducible refine And.intro (by first|assumption|decide|omega|exact ⟨by omega,by omega⟩|exact ⟨by omega,by omega,by omega⟩|exact ⟨by omega,hb0⟩|exact ⟨by omega,hB _⟩|exact ⟨by omega,by omega,hb0⟩|exact ⟨by omega,by omega,hB _⟩) ?_)
  exact Y67
 ·have d0:decide (n<0)=false:=dfq h0
  rcases hw with rfl|rfl
  ·rw [RJ h0] at hcl9 ⊢
   cases hd:decide (n ≥ 256)
   all_goals
    rw [hd] at hcl9
    try rw [Bool.or_false] at hcl9
    try rw [Bool.or_true] at hcl9
    simp only [go_sem,byq,hne,hneq,n1,n2,hcs,hcm,hA,hA0,hB,eh,hi0,hb0,zlz,zlk,zmb,true_and,oc,d0,s1,s2,hd,Bool.or_false,Bool.or_true]
    (repeat with_reducible refine And.intro (by first|assumption|decide|omega|exact ⟨by omega,by omega⟩|exact ⟨by omega,by omega,by omega⟩|exact ⟨by omega,hb0⟩|exact ⟨by omega,hB _⟩|exact ⟨by omega,by omega,hb0⟩|exact ⟨by omega,by omega,hB _⟩) ?_)
    simp (disch:=first|exact Zd|omega) [↓zmo,beq,ybc,ybd,ybe,ag,wk,wk2,wk1,wkM,wkL,au,ybf,hcl9,lAq]
    first|done|exact hcl9|simpa using hcl9
  ·rw [RS h0] at hcl9 ⊢
   cases hd:decide (n ≥ 65536)
   all_goals
    rw [hd] at hcl9
    try rw [Bool.or_false] at hcl9
    try rw [Bool.or_true] at hcl9
    simp only [go_sem,byq,hne,hneq,n1,n2,hcs,hcm,hA,hA0,hB,eh,hi0,hb0,zlz,zlk,zmb,true_and,oc,d0,s3,s4,hd,Bool.or_false,Bool.or_true]
    (repeat with_reducible refine And.intro (by first|assumption|decide|omega|exact ⟨by omega,by omega⟩|exact ⟨by omega,by omega,by omega⟩|exact ⟨by omega,hb0⟩|exact ⟨by omega,hB _⟩|exact ⟨by omega,by omega,hb0⟩|exact ⟨by omega,by omega,hB _⟩) ?_)
    simp (disch:=first|exact Zd|omega) [↓zmo,beq,ybc,ybd,ybe,ag,wk,wk2,wk1,wkM,wkL,au,ybf,hcl9,lAq]
    first|done|exact hcl9|simpa using hcl9
def Cn:ECt
 |[.ptr id 0,.int .i64 n,.int .i64 most],H,K=>∃ q s k,(SOn H id q s∧n=((k:Nat):Int)∧(s.add (dc k most)).b.length≤dB)∧K (.ret (.tup [])) (swH H id q (s.add (dc k most)))
 |_,_,_=>False
theorem lZ {id q k:Nat} {H:AHeap} {s:Enc} {m:Int} {K:AEnd→AHeap→Prop} (h:SOn H id q s) (hl:(s.add (dc k m)).b.length≤dB) (hK:K (.ret (.tup [])) (swH H id q (s.add (dc k m)))) :
 Cn [.ptr id 0,.int .i64 (k:Int),.int .i64 m] H K:=⟨q,s,k,⟨h,rfl,hl⟩,hK⟩
theorem pZ:EEe 166 Cn:=by
 refine Yef fun _ H K h=>?_
 unfold Cn at h
 split at h<;>try exact h.elim
 rename_i id n most
 obtain ⟨q,s,k,⟨hW,rfl,hl⟩,hK⟩:=h
 refine ⟨_,_,hK,?_⟩
 clear hK
 replace hl:=aQ hl
 rw [bL] at hl
 have hcl0:=fun t=>hW.closed (t:=t)
 obtain ⟨b,sl,sf,sa⟩:=s
 have hid:=glq hW.o
 have hq:=glq hW.bu
 have hne:=cN hid
 have hneq:=cN hq
 have n1:(id=q)=False:=eq_false hW.ne
 have n2:(q=id)=False:=eq_false fun e=>hW.ne e.symm
 have hcs:=aM hW.o
 have hb0:=hW.bu
 have hi0:=hW.o
 have hnn:=hW.ne
 dsimp only at hcs hb0 hi0 hl
 refine Yfw aC (tCq vQ tNq) Tryz.func166 [] (by rw [ak];omega) (T:=aA []) (h:=fun hcl=>?_)
 have hcl1:=fun t=>hcl0 t hcl
 have hcm:=fun cs=>@bM H id cs hid
 have hA:=fun X Y=>@cr H id q X Y hnn hid
 have hA0:∀ Y,aW (H.set q Y) id=aW H id:=fun Y=>by
  exact Y81
 have hB:=fun X=>di (X:=X) hnn hb0
 have eh:=fun X Y Z=>@dh H id q X Y Z
 have hcl9:=hcl1 ((⟨b,sl,sf,sa⟩:Enc).add (dc k most))
 simp only [swH,Enc.add,dc,Bool.or_false,lAq] at hcl9 ⊢
 cases hd:decide ((k:Int) > most)
 all_goals
  rw [hd] at hcl9
  try rw [Bool.or_false] at hcl9
  try rw [Bool.or_true] at hcl9
  simp only [go_sem,byq,hne,hneq,n1,n2,hcs,hcm,hA,hA0,hB,eh,hi0,hb0,zlz,zlk,zmb,true_and,oc,hd,Bool.or_false,Bool.or_true]
  (repeat with_reducible refine And.intro (by first|assumption|decide|omega|exact ⟨by omega,by omega⟩|exact ⟨by omega,by omega,by omega⟩|exact ⟨by omega,hb0⟩|exact ⟨by omega,hB _⟩|exact ⟨by omega,by omega,hb0⟩|exact ⟨by omega,by omega,hB _⟩) ?_)
  simp (disch:=first|exact Zd|omega) [↓zmo,beq,ybc,ybd,ybe,ag,wk,wk2,wk1,wkM,wkL,au,ybf,hcl9,lAq]
  first|done|exact hcl9|simpa using hcl9
def Kg:=v7
theorem tV:EEe 280 Kg:=by
 unfold Kg
 refine Yef fun _ H K h=>?_
 unfold v7 at h
 split at h<;>try exact h.elim
 rename_i id x most
 obtain ⟨q,s,⟨hW,hx,hl⟩,hK⟩:=h
 refine ⟨_,_,hK,?_⟩
 clear hK
 replace hl:=aQ hl
 rw [bL] at hl hx
 have hcl0:=fun t=>hW.closed (t:=t)
 obtain ⟨b,sl,sf,sa⟩:=s
 have hid:=glq hW.o
 have hq:=glq hW.bu
 have hne:=cN hid
 have hneq:=cN hq
 have n1:(id=q)=False:=eq_false hW.ne
 have n2:(q=id)=False:=eq_false fun e=>hW.ne e.symm
 have hcs:=aM hW.o
 have hb0:=hW.bu
 have hi0:=hW.o
 have hnn:=hW.ne
 dsimp only at hcs hb0 hi0 hl
 refine Yfw aC (tCq F3 (tCq Jn tNq)) Tryz.func280 [] (by rw [ak];omega) (T:=aA []) (h:=fun hcl=>?_)
 have hcl1:=fun t=>hcl0 t hcl
 have hcm:=fun cs=>@bM H id cs hid
 have hA:=fun X Y=>@cr H id q X Y hnn hid
 have hA0:∀ Y,aW (H.set q Y) id=aW H id:=fun Y=>by
  exact Y81
 have hB:=fun X=>di (X:=X) hnn hb0
 have eh:=fun X Y Z=>@dh H id q X Y Z
 have hcl9:=hcl1 ((⟨b,sl,sf,sa⟩:Enc).add (ir x most))
 simp only [swH,Enc.add,ir,Bool.or_false,lAq,FT] at hcl9 ⊢
 cases hd:decide ((x.length:Int) > most)<;>cases hp:lm x
 all_goals
  rw [hd,hp] at hcl9
  try rw [Bool.or_false] at hcl9
  try rw [Bool.or_true] at hcl9
  simp only [go_sem,byq,hne,hneq,n1,n2,hcs,hcm,hA,hA0,hB,eh,hi0,hb0,zlz,zlk,zmb,true_and,vw,yR,hd,hp,Bool.or_false,Bool.or_true,Bool.not_true,Bool.not_false]
  (repeat with_reducible refine And.intro (by first|assumption|decide|omega|exact ⟨by omega,by omega⟩|exact ⟨by omega,by omega,by omega⟩|exact ⟨by omega,hb0⟩|exact ⟨by omega,hB _⟩|exact ⟨by omega,by omega,hb0⟩|exact ⟨by omega,by omega,hB _⟩) ?_)
  simp (disch:=first|exact Zd|omega) [↓zmo,beq,ybc,ybd,ybe,ag,wk,wk2,wk1,wkM,wkL,au,ybf,hcl9,lAq]
  first|done|exact hcl9|simpa using hcl9
abbrev bY (x:SField):List AV:=(aH x).cells
abbrev bV (x:SHeader):List AV:=(az x).cells
abbrev bZ (x:SCase):List AV:=(aX x).cells
abbrev bQ (x:SState):List AV:=(aB x).cells
abbrev bT (x:SParam):List AV:=(aK x).cells
abbrev b5 (x:SPrim):List AV:=(aT x).cells
abbrev bX (x:SKey):List AV:=(aY x).cells
abbrev bW (x:SStage):List AV:=(aO x).cells
abbrev bU (x:SRef):List AV:=(bh x).cells
abbrev bR (x:SGrant):List AV:=(aJ x).cells
abbrev bN (x:SAction):List AV:=(ap x).cells
abbrev bP (x:STable):List AV:=(ax x).cells
abbrev bO (x:SRole):List AV:=(aN x).cells
theorem gM {α:Type} {g:α→Enc} (h1:∀ x,1≤(g x).b.length) {l:List α} {s:Enc} (hl:(s.add (b7 g l)).b.length≤dB):l.length≤100000000000000:=by
 have h2:=zc h1 l
 rw [dy,bL] at hl
 omega
theorem gZ {α:Type} {g:α→Enc} {m:Int} {l:List α} {s:Enc}:s.add (bp g m l)=(s.add (dc l.length m)).add (b7 g l):=by rw [aG];rfl
theorem jn {n:Nat} {x:AV} (h:∀ n,x.lt n):ltL n x.cells:=ltL_iff.2 fun j hj=>AV.lt_cells (h n) j hj
theorem SOn.push3 {H:AHeap} {id q:Nat} {s:Enc} (h:SOn H id q s) (x y z:AObj):SOn (((H.push x).push y).push z) id q s:=((h.push x).push y).push z
def yf:ECt
 |[.ptr id 0,.slice .any 1 xs,.int .i64 most],H,K=>∃ q s l,(SOn H id q s∧xs=inL l∧(s.add (bp jU most l)).b.length≤dB)∧K (.ret (.tup [])) (swH H id q (s.add (bp jU most l)))
 |_,_,_=>False
theorem Bf {id q:Nat} {H:AHeap} {s:Enc} {l:List Int} {m:Int} {K:AEnd→AHeap→Prop} (h:SOn H id q s) (hl:(s.add (bp jU m l)).b.length≤dB) (hK:K (.ret (.tup [])) (swH H id q (s.add (bp jU m l)))) :
 yf [.ptr id 0,.slice .any 1 (l.map (.int .i64)),.int .i64 m] H K:=⟨q,s,l,⟨h,rfl,hl⟩,hK⟩
theorem uO:EEe 281 yf:=by
 refine Yef fun _ H K h=>?_
 unfold yf at h
 split at h<;>try exact h.elim
 rename_i id xs most
 obtain ⟨q,s,l,⟨hW,rfl,hl⟩,hK⟩:=h
 refine ⟨_,_,hK,?_⟩
 clear hK
 have hF:=hW.facts
 have hcl0:=fun t=>hW.closed (t:=t)
 have hid:=glq hW.o
 have hq:=glq hW.bu
 refine Yfw aC (tCq pZ (tCq qg tNq)) Tryz.func281 [] (by rw [ak];omega) (T:=aA []) (h:=fun hcl=>?_)
 have hcl1:=fun t=>hcl0 t hcl
 have hE:s.add (bp jU most l)=(s.add (dc l.length most)).add (b7 jU l):=by rw [aG];rfl
 rw [hE] at hl ⊢
 have hN:=gM zh hl
 simp only [go_sem,inL,ybb]
 refine lZ hW (aQ hl) ?_
 simp only [go_sem,inL,ybb,ak]
 refine aD (A:=Nat) (fun k=>[(0,.ptr id 0),(13,.slice .any 1 (l.map (.int .i64))),(14,.int .i64 (l.length:Int)),(15,.int .i64 (k:Int))]) (fun k=>swH H id q ((s.add (dc l.length most)).add (b7 jU (l.take k)))) (fun k=>k≤l.length) (fun k=>l.length - k) 0 (by omega) ?_ fun k hk=>?_
 ·rw [yar,b7,cW]
  refine eNt (hcl1 _) ?_ ?_ (a:=by simp only [zkq,zkv,zle,ak];omega)
  ·simp [ltF,zle,ak,znn,znf,aa fun _=>of_eq_true znf]
   try omega
  ·exact Y14
 refine Tq15 ?_
 refine ay (fun hc=>?_) (fun hc=>?_)
 ·have hk':k<l.length:=sHc
  obtain ⟨x,hx⟩:∃ x,x=l[k]:=⟨_,rfl⟩
  have hg:=cK (f:=.int .i64) (l:=l) (k:=k) (x:=x) (by rw [gQq hk',hx])
  have e5:=Yk5 k
  obtain ⟨es,hlk⟩:=dd (g:=jU) hk' hx hl
  simp only [go_sem,iNq,ybb,hg,ak]
  refine ⟨by omega,?_⟩
  refine cY (.inr rfl) (hW.next _) hlk ?_
  rw [hF.pp,show cf x 2=jU x from rfl,es]
  simp only [go_sem,e5]
  refine ⟨k+1,by omega,by omega,eNt (hcl1 _) ?_ ?_ (a:=by simp only [zkq,zkv,zle,ak];omega)⟩
  ·simp [ltF,zle,ak,znn,znf,aa fun _=>of_eq_true znf]
   try omega
  ·exact Y14
 ·exact Y13
def I8:=eW ap nN eM
def HM:=eW ax pM gH
def IB:=eW aN y0 ky
def JW:=eW eJ OkSch fI
theorem OT:EEe 167 I8:=by
 unfold I8
 refine Yef fun _ H K h=>?_
 unfold eW at h
 split at h<;>try exact h.elim
 rename_i id x
 obtain ⟨q,s,a,⟨hW,rfl,ha,hl⟩,hK⟩:=h
 refine ⟨_,_,hK,?_⟩
 clear hK
 have hF:=hW.facts
 have hcl0:=fun t=>hW.closed (t:=t)
 have hid:=glq hW.o
 have hq:=glq hW.bu
 refine Yfw aC (tCq pZ (tCq qg (tCq tV (tCq yU tNq)))) Tryz.func167 [] (by rw [ak];omega) (T:=aA []) (h:=fun hcl=>?_)
 have hcl1:=fun t=>hcl0 t hcl
 unfold eM at hl ⊢
 rw [← aG,← aG,← aG,← aG] at hl ⊢
 have hl3:=aQ hl
 have hl2:=aQ hl3
 have hl1:=aQ hl2
 have hl0:=aQ hl1
 refine Tq5 ?_
 refine cY (.inr rfl) (hW.push _) hl0 ?_
 rw [hF.p0]
 refine Tq5 ?_
 refine kY (ha.1) ((hW.next _).push _) hl1 ?_
 rw [hF.p1]
 have hE12:(((((s).add (cf a.id 2))).add (ir a.name 24))).add (bp jr 4 a.params)=((((((s).add (cf a.id 2))).add (ir a.name 24))).add (dc a.params.length 4)).add (b7 jr a.params):=gZ
 have hT12:=hl2
 rw [hE12] at hT12
 have hN12:=gM xz hT12
 refine Tq5 ?_
 refine lZ ((hW.next _).push _) (aQ hT12) ?_
 rw [hF.p1]
 refine Tq5 ?_
 refine aD (A:=Nat) (fun k=>[(0,.ptr id 0),(3,.ptr H.nx 0),(22,.slice .any 2 (a.params.map (aK))),(23,.int .i64 (a.params.length:Int)),(24,.int .i64 (k:Int))]) (fun k=>(swH H id q (((((((s).add (cf a.id 2))).add (ir a.name 24))).add (dc a.params.length 4)).add (b7 jr (a.params.take k)))).push (.cells (bN a))) (fun k=>k≤a.params.length) (fun k=>a.params.length - k) 0 (by omega) ?_ fun k1 hk1=>?_
 ·rw [yar,b7,cW]
  refine eNt (ah (hcl1 _) (jn (x:=ap a) fun _=>bK a)) ?_ ?_ (a:=by simp only [zkq,zkv,zle,ak];omega)
  ·exact Y16
  ·exact Y14
 refine Tq15 ?_
 refine ay (fun hc=>?_) (fun hc=>?_)
 ·have hk1':k1<a.params.length:=sHc
  obtain ⟨x1,hx1⟩:∃ x1,x1=a.params[k1]:=⟨_,rfl⟩
  have hg1:=cK (f:=aK) (l:=a.params) (k:=k1) (x:=x1) (by rw [gQq hk1',hx1])
  have e15:IntKind.i64.wrap ((k1:Int)+1)=((k1+1:Nat):Int):=by rw [wrap_i64]<;>omega
  have ho1:=(ha.2.1) x1 (by rw [hx1];exact gMq hk1')
  obtain ⟨es1,hlk1⟩:=dd (g:=jr) hk1' hx1 hT12
  simp only [go_sem,ap,inL,boL,vc,bY,bV,bZ,bQ,bT,b5,bX,bW,bU,bR,bN,bP,bO,AV.cells,aX,aH,aJ,az,aY,aK,aT,bh,aN,aO,aB,ax,ybb,zle,iNq,ybb,hg1,aK,ak]
  refine ⟨by omega,?_⟩
  rw [show jr x1=((ir x1.name 24).add (cf x1.bits 1)) from rfl] at es1 hlk1
  rw [← aG] at hlk1
  rw [← aG] at es1
  have hm10:=aQ hlk1
  refine Tq39 ?_
  refine kY (ho1) ((hW.next _).push2 _ _) hm10 ?_
  rw [hF.p2]
  refine Tq39 ?_
  refine cY (.inl rfl) ((hW.next _).push2 _ _) hlk1 ?_
  rw [hF.p2]
  rw [es1]
  refine Tq65 ?_
  refine ⟨k1+1,by omega,by omega,eNt (ah (hcl1 _) (jn (x:=ap a) fun _=>bK a)) ?_ ?_ (a:=by simp only [zkq,zkv,zle,ak];omega)⟩
  ·exact Y18
  ·exact Y14
 ·have hk1':k1=a.params.length:=sHc
  subst hk1'
  rw [List.take_length]
  rw [← hE12]
  have hE13:(((((((s).add (cf a.id 2))).add (ir a.name 24))).add (bp jr 4 a.params))).add (bp mJ 12 a.body)=((((((((s).add (cf a.id 2))).add (ir a.name 24))).add (bp jr 4 a.params))).add (dc a.body.length 12)).add (b7 mJ a.body):=gZ
  have hT13:=hl3
  rw [hE13] at hT13
  have hN13:=gM zW hT13
  refine Tq5 ?_
  refine lZ ((hW.next _).push _) (aQ hT13) ?_
  rw [hF.p1]
  refine Tq5 ?_
  refine aD (A:=Nat) (fun k=>[(0,.ptr id 0),(3,.ptr H.nx 0),(43,.slice .any 6 (a.body.map (aT))),(44,.int .i64 (a.body.length:Int)),(45,.int .i64 (k:Int))]) (fun k=>(swH H id q (((((((((s).add (cf a.id 2))).add (ir a.name 24))).add (bp jr 4 a.params))).add (dc a.body.length 12)).add (b7 mJ (a.body.take k)))).push (.cells (bN a))) (fun k=>k≤a.body.length) (fun k=>a.body.length - k) 0 (by omega) ?_ fun k1 hk1=>?_
  ·rw [yar,b7,cW]
   refine eNt (ah (hcl1 _) (jn (x:=ap a) fun _=>bK a)) ?_ ?_ (a:=by simp only [zkq,zkv,zle,ak];omega)
   ·exact Y16
   ·exact Y14
  refine Tq15 ?_
  refine ay (fun hc=>?_) (fun hc=>?_)
  ·have hk1':k1<a.body.length:=sHc
   obtain ⟨x1,hx1⟩:∃ x1,x1=a.body[k1]:=⟨_,rfl⟩
   have hg1:=cK (f:=aT) (l:=a.body) (k:=k1) (x:=x1) (by rw [gQq hk1',hx1])
   have e15:IntKind.i64.wrap ((k1:Int)+1)=((k1+1:Nat):Int):=by rw [wrap_i64]<;>omega
   have ho1:=(ha.2.2.1) x1 (by rw [hx1];exact gMq hk1')
   obtain ⟨es1,hlk1⟩:=dd (g:=mJ) hk1' hx1 hT13
   simp only [go_sem,ap,inL,boL,vc,bY,bV,bZ,bQ,bT,b5,bX,bW,bU,bR,bN,bP,bO,AV.cells,aX,aH,aJ,az,aY,aK,aT,bh,aN,aO,aB,ax,ybb,zle,iNq,ybb,hg1,aT,vc,ak]
   refine ⟨by omega,?_⟩
   rw [show mJ x1=((cf x1.op 1).add ((cf x1.dst 2).add ((cf x1.kind 1).add ((cf x1.n 2).add (jY x1.value))))) from rfl] at es1 hlk1
   rw [← aG,← aG,← aG,← aG] at hlk1
   rw [← aG,← aG,← aG,← aG] at es1
   have hm13:=aQ hlk1
   have hm12:=aQ hm13
   have hm11:=aQ hm12
   have hm10:=aQ hm11
   refine Tq13 ?_
   refine cY (.inl rfl) ((hW.next _).push2 _ _) hm10 ?_
   rw [hF.p2]
   refine Tq13 ?_
   refine cY (.inr rfl) ((hW.next _).push2 _ _) hm11 ?_
   rw [hF.p2]
   refine Tq13 ?_
   refine cY (.inl rfl) ((hW.next _).push2 _ _) hm12 ?_
   rw [hF.p2]
   refine Tq13 ?_
   refine cY (.inr rfl) ((hW.next _).push2 _ _) hm13 ?_
   rw [hF.p2]
   refine Tq13 ?_
   refine tc (ho1) ((hW.next _).push2 _ _) hlk1 ?_
   rw [hF.p2]
   rw [es1]
   refine Tq65 ?_
   refine ⟨k1+1,by omega,by omega,eNt (ah (hcl1 _) (jn (x:=ap a) fun _=>bK a)) ?_ ?_ (a:=by simp only [zkq,zkv,zle,ak];omega)⟩
   ·exact Y18
   ·exact Y14
  ·have hk1':k1=a.body.length:=sHc
   subst hk1'
   rw [List.take_length]
   rw [← hE13]
   refine Tq5 ?_
   refine kY (ha.2.2.2) ((hW.next _).push _) hl ?_
   rw [hF.p1]
   refine Tq5 ?_
   exact Y20
theorem ND:EEe 168 HM:=by
 unfold HM
 refine Yef fun _ H K h=>?_
 unfold eW at h
 split at h<;>try exact h.elim
 rename_i id x
 obtain ⟨q,s,a,⟨hW,rfl,ha,hl⟩,hK⟩:=h
 refine ⟨_,_,hK,?_⟩
 clear hK
 have hF:=hW.facts
 have hcl0:=fun t=>hW.closed (t:=t)
 have hid:=glq hW.o
 have hq:=glq hW.bu
 refine Yfw aC (tCq pZ (tCq qg (tCq uO (tCq tV (tCq yU tNq))))) Tryz.func168 [] (by rw [ak];omega) (T:=aA []) (h:=fun hcl=>?_)
 have hcl1:=fun t=>hcl0 t hcl
 unfold gH at hl ⊢
 rw [← aG,← aG,← aG,← aG,← aG,← aG,← aG] at hl ⊢
 have hl6:=aQ hl
 have hl5:=aQ hl6
 have hl4:=aQ hl5
 have hl3:=aQ hl4
 have hl2:=aQ hl3
 have hl1:=aQ hl2
 have hl0:=aQ hl1
 refine Tq2 ?_
 refine cY (.inr rfl) (hW.push _) hl0 ?_
 rw [hF.p0]
 refine Tq2 ?_
 refine kY (ha.1) ((hW.next _).push _) hl1 ?_
 rw [hF.p1]
 have hE12:(((((s).add (cf a.id 2))).add (ir a.name 24))).add (bp pI 4 a.keys)=((((((s).add (cf a.id 2))).add (ir a.name 24))).add (dc a.keys.length 4)).add (b7 pI a.keys):=gZ
 have hT12:=hl2
 rw [hE12] at hT12
 have hN12:=gM C8 hT12
 refine Tq2 ?_
 refine lZ ((hW.next _).push _) (aQ hT12) ?_
 rw [hF.p1]
 refine Tq2 ?_
 refine aD (A:=Nat) (fun k=>[(0,.ptr id 0),(3,.ptr H.nx 0),(22,.slice .any 3 (a.keys.map (aY))),(23,.int .i64 (a.keys.length:Int)),(24,.int .i64 (k:Int))]) (fun k=>(swH H id q (((((((s).add (cf a.id 2))).add (ir a.name 24))).add (dc a.keys.length 4)).add (b7 pI (a.keys.take k)))).push (.cells (bP a))) (fun k=>k≤a.keys.length) (fun k=>a.keys.length - k) 0 (by omega) ?_ fun k1 hk1=>?_
 ·rw [yar,b7,cW]
  refine eNt (ah (hcl1 _) (jn (x:=ax a) fun _=>cb a)) ?_ ?_ (a:=by simp only [zkq,zkv,zle,ak];omega)
  ·exact Y16
  ·exact Y14
 refine Tq15 ?_
 refine ay (fun hc=>?_) (fun hc=>?_)
 ·have hk1':k1<a.keys.length:=sHc
  obtain ⟨x1,hx1⟩:∃ x1,x1=a.keys[k1]:=⟨_,rfl⟩
  have hg1:=cK (f:=aY) (l:=a.keys) (k:=k1) (x:=x1) (by rw [gQq hk1',hx1])
  have e15:IntKind.i64.wrap ((k1:Int)+1)=((k1+1:Nat):Int):=by rw [wrap_i64]<;>omega
  have ho1:=(ha.2.1) x1 (by rw [hx1];exact gMq hk1')
  obtain ⟨es1,hlk1⟩:=dd (g:=pI) hk1' hx1 hT12
  simp only [go_sem,ax,inL,boL,vc,bY,bV,bZ,bQ,bT,b5,bX,bW,bU,bR,bN,bP,bO,AV.cells,ap,aX,aH,aJ,az,aY,aK,aT,bh,aN,aO,aB,ybb,zle,iNq,ybb,hg1,aY,ak]
  refine ⟨by omega,?_⟩
  rw [show pI x1=((ir x1.name 24).add ((cf x1.field 2).add (cf x1.kind 1))) from rfl] at es1 hlk1
  rw [← aG,← aG] at hlk1
  rw [← aG,← aG] at es1
  have hm11:=aQ hlk1
  have hm10:=aQ hm11
  refine Tq26 ?_
  refine kY (ho1) ((hW.next _).push2 _ _) hm10 ?_
  rw [hF.p2]
  refine Tq26 ?_
  refine cY (.inr rfl) ((hW.next _).push2 _ _) hm11 ?_
  rw [hF.p2]
  refine Tq26 ?_
  refine cY (.inl rfl) ((hW.next _).push2 _ _) hlk1 ?_
  rw [hF.p2]
  rw [es1]
  refine Tq65 ?_
  refine ⟨k1+1,by omega,by omega,eNt (ah (hcl1 _) (jn (x:=ax a) fun _=>cb a)) ?_ ?_ (a:=by simp only [zkq,zkv,zle,ak];omega)⟩
  ·exact Y18
  ·exact Y14
 ·have hk1':k1=a.keys.length:=sHc
  subst hk1'
  rw [List.take_length]
  rw [← hE12]
  refine Tq2 ?_
  refine Bf ((hW.next _).push _) hl3 ?_
  rw [hF.p1]
  refine Tq2 ?_
  refine cY (.inr rfl) ((hW.next _).push _) hl4 ?_
  rw [hF.p1]
  have hE15:(((((((((((s).add (cf a.id 2))).add (ir a.name 24))).add (bp pI 4 a.keys))).add (bp jU 12 a.actions))).add (cf a.dflt 2))).add (bp jY 4 a.dargs)=((((((((((((s).add (cf a.id 2))).add (ir a.name 24))).add (bp pI 4 a.keys))).add (bp jU 12 a.actions))).add (cf a.dflt 2))).add (dc a.dargs.length 4)).add (b7 jY a.dargs):=gZ
  have hT15:=hl5
  rw [hE15] at hT15
  have hN15:=gM zd hT15
  refine Tq2 ?_
  refine lZ ((hW.next _).push _) (aQ hT15) ?_
  rw [hF.p1]
  refine Tq2 ?_
  refine aD (A:=Nat) (fun k=>[(0,.ptr id 0),(3,.ptr H.nx 0),(55,.slice .any 2 (a.dargs.map (vv))),(56,.int .i64 (a.dargs.length:Int)),(57,.int .i64 (k:Int))]) (fun k=>(swH H id q (((((((((((((s).add (cf a.id 2))).add (ir a.name 24))).add (bp pI 4 a.keys))).add (bp jU 12 a.actions))).add (cf a.dflt 2))).add (dc a.dargs.length 4)).add (b7 jY (a.dargs.take k)))).push (.cells (bP a))) (fun k=>k≤a.dargs.length) (fun k=>a.dargs.length - k) 0 (by omega) ?_ fun k1 hk1=>?_
  ·rw [yar,b7,cW]
   refine eNt (ah (hcl1 _) (jn (x:=ax a) fun _=>cb a)) ?_ ?_ (a:=by simp only [zkq,zkv,zle,ak];omega)
   ·exact Y16
   ·exact Y14
  refine Tq15 ?_
  refine ay (fun hc=>?_) (fun hc=>?_)
  ·have hk1':k1<a.dargs.length:=sHc
   obtain ⟨x1,hx1⟩:∃ x1,x1=a.dargs[k1]:=⟨_,rfl⟩
   have hg1:=cK (f:=vv) (l:=a.dargs) (k:=k1) (x:=x1) (by rw [gQq hk1',hx1])
   have e15:IntKind.i64.wrap ((k1:Int)+1)=((k1+1:Nat):Int):=by rw [wrap_i64]<;>omega
   have ho1:=(ha.2.2.1) x1 (by rw [hx1];exact gMq hk1')
   obtain ⟨es1,hlk1⟩:=dd (g:=jY) hk1' hx1 hT15
   simp only [go_sem,ax,inL,boL,vc,bY,bV,bZ,bQ,bT,b5,bX,bW,bU,bR,bN,bP,bO,AV.cells,ap,aX,aH,aJ,az,aY,aK,aT,bh,aN,aO,aB,ybb,zle,iNq,ybb,hg1,vv,ak]
   refine ⟨by omega,?_⟩
   try skip
   refine tc (ho1) ((hW.next _).push2 _ _) hlk1 ?_
   rw [hF.p2]
   rw [es1]
   refine Tq65 ?_
   refine ⟨k1+1,by omega,by omega,eNt (ah (hcl1 _) (jn (x:=ax a) fun _=>cb a)) ?_ ?_ (a:=by simp only [zkq,zkv,zle,ak];omega)⟩
   ·exact Y18
   ·exact Y14
  ·have hk1':k1=a.dargs.length:=sHc
   subst hk1'
   rw [List.take_length]
   rw [← hE15]
   refine Tq2 ?_
   refine cY (.inr rfl) ((hW.next _).push _) hl6 ?_
   rw [hF.p1]
   refine Tq2 ?_
   refine kY (ha.2.2.2) ((hW.next _).push _) hl ?_
   rw [hF.p1]
   refine Tq2 ?_
   exact Y20
abbrev hZ (x:Sch):List AV:=(eJ x).cells
theorem lW {n:Nat} (x:Sch):(eJ x).lt n:=sU x
theorem Mt:EEe 169 IB:=by
 unfold IB
 refine Yef fun _ H K h=>?_
 unfold eW at h
 split at h<;>try exact h.elim
 rename_i id x
 obtain ⟨q,s,a,⟨hW,rfl,ha,hl⟩,hK⟩:=h
 refine ⟨_,_,hK,?_⟩
 clear hK
 have hF:=hW.facts
 have hcl0:=fun t=>hW.closed (t:=t)
 have hid:=glq hW.o
 have hq:=glq hW.bu
 refine Yfw aC (tCq pZ (tCq qg (tCq uO (tCq L5 (tCq tV tNq))))) Tryz.func169 [] (by rw [ak];omega) (T:=aA []) (h:=fun hcl=>?_)
 have hcl1:=fun t=>hcl0 t hcl
 unfold ky at hl ⊢
 rw [← aG,← aG,← aG,← aG,← aG] at hl ⊢
 have hl4:=aQ hl
 have hl3:=aQ hl4
 have hl2:=aQ hl3
 have hl1:=aQ hl2
 have hl0:=aQ hl1
 refine Tq6 ?_
 refine cY (.inr rfl) (hW.push _) hl0 ?_
 rw [hF.p0]
 refine Tq6 ?_
 refine kY (ha) ((hW.next _).push _) hl1 ?_
 rw [hF.p1]
 have hE12:(((((s).add (cf a.id 2))).add (ir a.name 24))).add (bp jA 8 a.grants)=((((((s).add (cf a.id 2))).add (ir a.name 24))).add (dc a.grants.length 8)).add (b7 jA a.grants):=gZ
 have hT12:=hl2
 rw [hE12] at hT12
 have hN12:=gM w7 hT12
 refine Tq6 ?_
 refine lZ ((hW.next _).push _) (aQ hT12) ?_
 rw [hF.p1]
 refine Tq6 ?_
 refine aD (A:=Nat) (fun k=>[(0,.ptr id 0),(3,.ptr H.nx 0),(22,.slice .any 4 (a.grants.map (aJ))),(23,.int .i64 (a.grants.length:Int)),(24,.int .i64 (k:Int))]) (fun k=>(swH H id q (((((((s).add (cf a.id 2))).add (ir a.name 24))).add (dc a.grants.length 8)).add (b7 jA (a.grants.take k)))).push (.cells (bO a))) (fun k=>k≤a.grants.length) (fun k=>a.grants.length - k) 0 (by omega) ?_ fun k1 hk1=>?_
 ·rw [yar,b7,cW]
  refine eNt (ah (hcl1 _) (jn (x:=aN a) fun _=>cy a)) ?_ ?_ (a:=by simp only [zkq,zkv,zle,ak];omega)
  ·exact Y16
  ·exact Y14
 refine Tq15 ?_
 refine ay (fun hc=>?_) (fun hc=>?_)
 ·have hk1':k1<a.grants.length:=sHc
  obtain ⟨x1,hx1⟩:∃ x1,x1=a.grants[k1]:=⟨_,rfl⟩
  have hg1:=cK (f:=aJ) (l:=a.grants) (k:=k1) (x:=x1) (by rw [gQq hk1',hx1])
  have e15:IntKind.i64.wrap ((k1:Int)+1)=((k1+1:Nat):Int):=by rw [wrap_i64]<;>omega
  obtain ⟨es1,hlk1⟩:=dd (g:=jA) hk1' hx1 hT12
  simp only [go_sem,aN,inL,boL,vc,bY,bV,bZ,bQ,bT,b5,bX,bW,bU,bR,bN,bP,bO,AV.cells,ap,aX,aH,aJ,az,aY,aK,aT,bh,aO,aB,ax,ybb,zle,iNq,ybb,hg1,aJ,ak]
  refine ⟨by omega,?_⟩
  rw [show jA x1=((cf x1.table 2).add ((ja x1.read).add ((ja x1.write).add (bp ja 4 x1.keys)))) from rfl] at es1 hlk1
  rw [← aG,← aG,← aG] at hlk1
  rw [← aG,← aG,← aG] at es1
  have hm12:=aQ hlk1
  have hm11:=aQ hm12
  have hm10:=aQ hm11
  refine Tq14 ?_
  refine cY (.inr rfl) ((hW.next _).push2 _ _) hm10 ?_
  rw [hF.p2]
  refine Tq14 ?_
  refine tt ((hW.next _).push2 _ _) hm11 ?_
  rw [hF.p2]
  refine Tq14 ?_
  refine tt ((hW.next _).push2 _ _) hm12 ?_
  rw [hF.p2]
  have hE23:((((((((((((((s).add (cf a.id 2))).add (ir a.name 24))).add (dc a.grants.length 8)).add (b7 jA (a.grants.take k1)))).add (cf x1.table 2))).add (ja x1.read))).add (ja x1.write))).add (bp ja 4 x1.keys)=(((((((((((((((s).add (cf a.id 2))).add (ir a.name 24))).add (dc a.grants.length 8)).add (b7 jA (a.grants.take k1)))).add (cf x1.table 2))).add (ja x1.read))).add (ja x1.write))).add (dc x1.keys.length 4)).add (b7 ja x1.keys):=gZ
  have hT23:=hlk1
  rw [hE23] at hT23
  have hN23:=gM AO hT23
  refine Tq14 ?_
  refine lZ ((hW.next _).push2 _ _) (aQ hT23) ?_
  rw [hF.p2]
  refine Tq14 ?_
  refine aD (A:=Nat) (fun k=>[(0,.ptr id 0),(3,.ptr H.nx 0),(22,.slice .any 4 (a.grants.map (aJ))),(23,.int .i64 (a.grants.length:Int)),(24,.int .i64 (k1:Int)),(46,.slice .any 1 (x1.keys.map (.bool))),(47,.int .i64 (x1.keys.length:Int)),(48,.int .i64 (k:Int))]) (fun k=>((swH H id q ((((((((((((((((s).add (cf a.id 2))).add (ir a.name 24))).add (dc a.grants.length 8)).add (b7 jA (a.grants.take k1)))).add (cf x1.table 2))).add (ja x1.read))).add (ja x1.write))).add (dc x1.keys.length 4)).add (b7 ja (x1.keys.take k)))).push (.cells (bO a))).push (.cells (bR x1))) (fun k=>k≤x1.keys.length) (fun k=>x1.keys.length - k) 0 (by omega) ?_ fun k2 hk2=>?_
  ·rw [yar,b7,cW]
   refine eNt (ah (ah (hcl1 _) (jn (x:=aN a) fun _=>cy a)) (jn (x:=aJ x1) fun _=>cg x1)) ?_ ?_ (a:=by simp only [zkq,zkv,zle,ak];omega)
   ·exact Y16
   ·exact Y14
  refine Tq15 ?_
  refine ay (fun hc=>?_) (fun hc=>?_)
  ·have hk2':k2<x1.keys.length:=sHc
   obtain ⟨x2,hx2⟩:∃ x2,x2=x1.keys[k2]:=⟨_,rfl⟩
   have hg2:=cK (f:=.bool) (l:=x1.keys) (k:=k2) (x:=x2) (by rw [gQq hk2',hx2])
   have e25:IntKind.i64.wrap ((k2:Int)+1)=((k2+1:Nat):Int):=by rw [wrap_i64]<;>omega
   obtain ⟨es2,hlk2⟩:=dd (g:=ja) hk2' hx2 hT23
   simp only [go_sem,aN,inL,boL,vc,bY,bV,bZ,bQ,bT,b5,bX,bW,bU,bR,bN,bP,bO,AV.cells,ap,aX,aH,aJ,az,aY,aK,aT,bh,aO,aB,ax,ybb,zle,iNq,ybb,hg1,aJ,iNq,ybb,hg2,ak]
   refine ⟨by omega,?_⟩
   try skip
   refine tt ((hW.next _).push2 _ _) hlk2 ?_
   rw [hF.p2]
   rw [es2]
   simp only [go_sem,e25]
   refine ⟨k2+1,by omega,by omega,eNt (ah (ah (hcl1 _) (jn (x:=aN a) fun _=>cy a)) (jn (x:=aJ x1) fun _=>cg x1)) ?_ ?_ (a:=by simp only [zkq,zkv,zle,ak];omega)⟩
   ·exact Y18
   ·exact Y14
  ·have hk2':k2=x1.keys.length:=sHc
   subst hk2'
   rw [List.take_length]
   rw [← hE23]
   rw [es1]
   refine Tq65 ?_
   refine ⟨k1+1,by omega,by omega,eNt (ah (hcl1 _) (jn (x:=aN a) fun _=>cy a)) ?_ ?_ (a:=by simp only [zkq,zkv,zle,ak];omega)⟩
   ·exact Y18
   ·exact Y14
 ·have hk1':k1=a.grants.length:=sHc
  subst hk1'
  rw [List.take_length]
  rw [← hE12]
  refine Tq6 ?_
  refine Bf ((hW.next _).push _) hl3 ?_
  rw [hF.p1]
  refine Tq6 ?_
  refine cY (.inr rfl) ((hW.next _).push _) hl4 ?_
  rw [hF.p1]
  refine Tq6 ?_
  refine tt ((hW.next _).push _) hl ?_
  rw [hF.p1]
  refine Tq6 ?_
  exact Y20
theorem Mo:EEe 165 JW:=by
 unfold JW
 refine Yef fun _ H K h=>?_
 unfold eW at h
 split at h<;>try exact h.elim
 rename_i id x
 obtain ⟨q,s,a,⟨hW,rfl,ha,hl⟩,hK⟩:=h
 refine ⟨_,_,hK,?_⟩
 clear hK
 have hF:=hW.facts
 have hcl0:=fun t=>hW.closed (t:=t)
 have hid:=glq hW.o
 have hq:=glq hW.bu
 refine Yfw aC (tCq pZ (tCq qg (tCq uO (tCq tV (tCq yU tNq))))) Tryz.func165 [] (by rw [ak];omega) (T:=aA []) (h:=fun hcl=>?_)
 have hcl1:=fun t=>hcl0 t hcl
 unfold fI at hl ⊢
 rw [← aG,← aG] at hl ⊢
 have hl1:=aQ hl
 have hl0:=aQ hl1
 have hE10:(s).add (bp gG 32 a.fields)=((s).add (dc a.fields.length 32)).add (b7 gG a.fields):=gZ
 have hT10:=hl0
 rw [hE10] at hT10
 have hN10:=gM xt hT10
 refine Tq7 ?_
 refine lZ (hW.push _) (aQ hT10) ?_
 rw [hF.p0]
 refine Tq7 ?_
 refine aD (A:=Nat) (fun k=>[(0,.ptr id 0),(3,.ptr H.nx 0),(18,.slice .any 3 (a.fields.map (aH))),(19,.int .i64 (a.fields.length:Int)),(20,.int .i64 (k:Int))]) (fun k=>(swH H id q (((s).add (dc a.fields.length 32)).add (b7 gG (a.fields.take k)))).push (.cells (hZ a))) (fun k=>k≤a.fields.length) (fun k=>a.fields.length - k) 0 (by omega) ?_ fun k1 hk1=>?_
 ·rw [yar,b7,cW]
  refine eNt (ah (hcl1 _) (jn (x:=eJ a) fun _=>lW a)) ?_ ?_ (a:=by simp only [zkq,zkv,zle,ak];omega)
  ·exact Y16
  ·exact Y14
 refine Tq15 ?_
 refine ay (fun hc=>?_) (fun hc=>?_)
 ·have hk1':k1<a.fields.length:=sHc
  obtain ⟨x1,hx1⟩:∃ x1,x1=a.fields[k1]:=⟨_,rfl⟩
  have hg1:=cK (f:=aH) (l:=a.fields) (k:=k1) (x:=x1) (by rw [gQq hk1',hx1])
  have e15:IntKind.i64.wrap ((k1:Int)+1)=((k1+1:Nat):Int):=by rw [wrap_i64]<;>omega
  have ho1:=(ha.f) x1 (by rw [hx1];exact gMq hk1')
  obtain ⟨es1,hlk1⟩:=dd (g:=gG) hk1' hx1 hT10
  simp only [go_sem,eJ,aS,inL,boL,vc,hZ,bY,bV,bZ,bQ,bT,b5,bX,bW,bU,bR,bN,bP,bO,AV.cells,ap,aX,aH,aJ,az,aY,aK,aT,bh,aN,aO,aB,ax,ybb,zle,iNq,ybb,hg1,aH,ak]
  refine ⟨by omega,?_⟩
  rw [show gG x1=((cf x1.id 2).add ((ir x1.name 24).add (cf x1.bits 1))) from rfl] at es1 hlk1
  rw [← aG,← aG] at hlk1
  rw [← aG,← aG] at es1
  have hm11:=aQ hlk1
  have hm10:=aQ hm11
  refine Tq25 ?_
  refine cY (.inr rfl) ((hW.next _).push2 _ _) hm10 ?_
  rw [hF.p2]
  refine Tq25 ?_
  refine kY (ho1) ((hW.next _).push2 _ _) hm11 ?_
  rw [hF.p2]
  refine Tq25 ?_
  refine cY (.inl rfl) ((hW.next _).push2 _ _) hlk1 ?_
  rw [hF.p2]
  rw [es1]
  refine Tq65 ?_
  refine ⟨k1+1,by omega,by omega,eNt (ah (hcl1 _) (jn (x:=eJ a) fun _=>lW a)) ?_ ?_ (a:=by simp only [zkq,zkv,zle,ak];omega)⟩
  ·exact Y18
  ·exact Y14
 ·have hk1':k1=a.fields.length:=sHc
  subst hk1'
  rw [List.take_length]
  rw [← hE10]
  have hE11:(((s).add (bp gG 32 a.fields))).add (bp fX 8 a.headers)=((((s).add (bp gG 32 a.fields))).add (dc a.headers.length 8)).add (b7 fX a.headers):=gZ
  have hT11:=hl1
  rw [hE11] at hT11
  have hN11:=gM vZ hT11
  refine Tq7 ?_
  refine lZ ((hW.next _).push _) (aQ hT11) ?_
  rw [hF.p1]
  refine Tq7 ?_
  refine aD (A:=Nat) (fun k=>[(0,.ptr id 0),(3,.ptr H.nx 0),(43,.slice .any 3 (a.headers.map (az))),(44,.int .i64 (a.headers.length:Int)),(45,.int .i64 (k:Int))]) (fun k=>(swH H id q (((((s).add (bp gG 32 a.fields))).add (dc a.headers.length 8)).add (b7 fX (a.headers.take k)))).push (.cells (hZ a))) (fun k=>k≤a.headers.length) (fun k=>a.headers.length - k) 0 (by omega) ?_ fun k1 hk1=>?_
  ·rw [yar,b7,cW]
   refine eNt (ah (hcl1 _) (jn (x:=eJ a) fun _=>lW a)) ?_ ?_ (a:=by simp only [zkq,zkv,zle,ak];omega)
   ·exact Y16
   ·exact Y14
  refine Tq15 ?_
  refine ay (fun hc=>?_) (fun hc=>?_)
  ·have hk1':k1<a.headers.length:=sHc
   obtain ⟨x1,hx1⟩:∃ x1,x1=a.headers[k1]:=⟨_,rfl⟩
   have hg1:=cK (f:=az) (l:=a.headers) (k:=k1) (x:=x1) (by rw [gQq hk1',hx1])
   have e15:IntKind.i64.wrap ((k1:Int)+1)=((k1+1:Nat):Int):=by rw [wrap_i64]<;>omega
   have ho1:=(ha.h) x1 (by rw [hx1];exact gMq hk1')
   obtain ⟨es1,hlk1⟩:=dd (g:=fX) hk1' hx1 hT11
   simp only [go_sem,eJ,aS,inL,boL,vc,hZ,bY,bV,bZ,bQ,bT,b5,bX,bW,bU,bR,bN,bP,bO,AV.cells,ap,aX,aH,aJ,az,aY,aK,aT,bh,aN,aO,aB,ax,ybb,zle,iNq,ybb,hg1,az,ak]
   refine ⟨by omega,?_⟩
   rw [show fX x1=((cf x1.id 2).add ((ir x1.name 24).add (bp jU 32 x1.fields))) from rfl] at es1 hlk1
   rw [← aG,← aG] at hlk1
   rw [← aG,← aG] at es1
   have hm11:=aQ hlk1
   have hm10:=aQ hm11
   refine Tq24 ?_
   refine cY (.inr rfl) ((hW.next _).push2 _ _) hm10 ?_
   rw [hF.p2]
   refine Tq24 ?_
   refine kY (ho1) ((hW.next _).push2 _ _) hm11 ?_
   rw [hF.p2]
   refine Tq24 ?_
   refine Bf ((hW.next _).push2 _ _) hlk1 ?_
   rw [hF.p2]
   rw [es1]
   refine Tq65 ?_
   refine ⟨k1+1,by omega,by omega,eNt (ah (hcl1 _) (jn (x:=eJ a) fun _=>lW a)) ?_ ?_ (a:=by simp only [zkq,zkv,zle,ak];omega)⟩
   ·exact Y18
   ·exact Y14
  ·have hk1':k1=a.headers.length:=sHc
   subst hk1'
   rw [List.take_length]
   rw [← hE11]
   have hE12:(((((s).add (bp gG 32 a.fields))).add (bp fX 8 a.headers))).add (bp iW 12 a.states)=((((((s).add (bp gG 32 a.fields))).add (bp fX 8 a.headers))).add (dc a.states.length 12)).add (b7 iW a.states):=gZ
   have hT12:=hl
   rw [hE12] at hT12
   have hN12:=gM wU hT12
   refine Tq7 ?_
   refine lZ ((hW.next _).push _) (aQ hT12) ?_
   rw [hF.p1]
   refine Tq7 ?_
   refine aD (A:=Nat) (fun k=>[(0,.ptr id 0),(3,.ptr H.nx 0),(68,.slice .any 5 (a.states.map (aB))),(69,.int .i64 (a.states.length:Int)),(70,.int .i64 (k:Int))]) (fun k=>(swH H id q (((((((s).add (bp gG 32 a.fields))).add (bp fX 8 a.headers))).add (dc a.states.length 12)).add (b7 iW (a.states.take k)))).push (.cells (hZ a))) (fun k=>k≤a.states.length) (fun k=>a.states.length - k) 0 (by omega) ?_ fun k1 hk1=>?_
   ·rw [yar,b7,cW]
    refine eNt (ah (hcl1 _) (jn (x:=eJ a) fun _=>lW a)) ?_ ?_ (a:=by simp only [zkq,zkv,zle,ak];omega)
    ·exact Y16
    ·exact Y14
   refine Tq15 ?_
   refine ay (fun hc=>?_) (fun hc=>?_)
   ·have hk1':k1<a.states.length:=sHc
    obtain ⟨x1,hx1⟩:∃ x1,x1=a.states[k1]:=⟨_,rfl⟩
    have hg1:=cK (f:=aB) (l:=a.states) (k:=k1) (x:=x1) (by rw [gQq hk1',hx1])
    have e15:IntKind.i64.wrap ((k1:Int)+1)=((k1+1:Nat):Int):=by rw [wrap_i64]<;>omega
    have ho1:=(ha.s) x1 (by rw [hx1];exact gMq hk1')
    obtain ⟨es1,hlk1⟩:=dd (g:=iW) hk1' hx1 hT12
    simp only [go_sem,eJ,aS,inL,boL,vc,hZ,bY,bV,bZ,bQ,bT,b5,bX,bW,bU,bR,bN,bP,bO,AV.cells,ap,aX,aH,aJ,az,aY,aK,aT,bh,aN,aO,aB,ax,ybb,zle,iNq,ybb,hg1,aB,ak]
    refine ⟨by omega,?_⟩
    rw [show iW x1=((cf x1.id 2).add ((cf x1.header 2).add ((cf x1.select 2).add ((bp mv 6 x1.cases).add (cf x1.dflt 2))))) from rfl] at es1 hlk1
    rw [← aG,← aG,← aG,← aG] at hlk1
    rw [← aG,← aG,← aG,← aG] at es1
    have hm13:=aQ hlk1
    have hm12:=aQ hm13
    have hm11:=aQ hm12
    have hm10:=aQ hm11
    refine Tq9 ?_
    refine cY (.inr rfl) ((hW.next _).push2 _ _) hm10 ?_
    rw [hF.p2]
    refine Tq9 ?_
    refine cY (.inr rfl) ((hW.next _).push2 _ _) hm11 ?_
    rw [hF.p2]
    refine Tq9 ?_
    refine cY (.inr rfl) ((hW.next _).push2 _ _) hm12 ?_
    rw [hF.p2]
    have hE23:((((((((((((((s).add (bp gG 32 a.fields))).add (bp fX 8 a.headers))).add (dc a.states.length 12)).add (b7 iW (a.states.take k1)))).add (cf x1.id 2))).add (cf x1.header 2))).add (cf x1.select 2))).add (bp mv 6 x1.cases)=(((((((((((((((s).add (bp gG 32 a.fields))).add (bp fX 8 a.headers))).add (dc a.states.length 12)).add (b7 iW (a.states.take k1)))).add (cf x1.id 2))).add (cf x1.header 2))).add (cf x1.select 2))).add (dc x1.cases.length 6)).add (b7 mv x1.cases):=gZ
    have hT23:=hm13
    rw [hE23] at hT23
    have hN23:=gM zM hT23
    refine Tq9 ?_
    refine lZ ((hW.next _).push2 _ _) (aQ hT23) ?_
    rw [hF.p2]
    refine Tq9 ?_
    refine aD (A:=Nat) (fun k=>[(0,.ptr id 0),(3,.ptr H.nx 0),(68,.slice .any 5 (a.states.map (aB))),(69,.int .i64 (a.states.length:Int)),(70,.int .i64 (k1:Int)),(9,.ptr (H.nx+1) 0),(92,.slice .any 5 (x1.cases.map (aX))),(93,.int .i64 (x1.cases.length:Int)),(94,.int .i64 (k:Int))]) (fun k=>((swH H id q ((((((((((((((((s).add (bp gG 32 a.fields))).add (bp fX 8 a.headers))).add (dc a.states.length 12)).add (b7 iW (a.states.take k1)))).add (cf x1.id 2))).add (cf x1.header 2))).add (cf x1.select 2))).add (dc x1.cases.length 6)).add (b7 mv (x1.cases.take k)))).push (.cells (hZ a))).push (.cells (bQ x1))) (fun k=>k≤x1.cases.length) (fun k=>x1.cases.length - k) 0 (by omega) ?_ fun k2 hk2=>?_
    ·rw [yar,b7,cW]
     refine eNt (ah (ah (hcl1 _) (jn (x:=eJ a) fun _=>lW a)) (jn (x:=aB x1) fun _=>cj x1)) ?_ ?_ (a:=by simp only [zkq,zkv,zle,ak];omega)
     ·exact Y16
     ·exact Y14
    refine Tq15 ?_
    refine ay (fun hc=>?_) (fun hc=>?_)
    ·have hk2':k2<x1.cases.length:=sHc
     obtain ⟨x2,hx2⟩:∃ x2,x2=x1.cases[k2]:=⟨_,rfl⟩
     have hg2:=cK (f:=aX) (l:=x1.cases) (k:=k2) (x:=x2) (by rw [gQq hk2',hx2])
     have e25:IntKind.i64.wrap ((k2:Int)+1)=((k2+1:Nat):Int):=by rw [wrap_i64]<;>omega
     have ho2:=(ho1) x2 (by rw [hx2];exact gMq hk2')
     obtain ⟨es2,hlk2⟩:=dd (g:=mv) hk2' hx2 hT23
     simp only [go_sem,eJ,aS,inL,boL,vc,hZ,bY,bV,bZ,bQ,bT,b5,bX,bW,bU,bR,bN,bP,bO,AV.cells,ap,aX,aH,aJ,az,aY,aK,aT,bh,aN,aO,aB,ax,ybb,zle,iNq,ybb,hg1,aB,iNq,ybb,hg2,aX,vc,ak]
     refine ⟨by omega,?_⟩
     rw [show mv x2=((jY x2.value).add ((jY x2.mask).add (cf x2.next 2))) from rfl] at es2 hlk2
     rw [← aG,← aG] at hlk2
     rw [← aG,← aG] at es2
     have hm21:=aQ hlk2
     have hm20:=aQ hm21
     refine Tq21 ?_
     refine tc (ho2.1) ((hW.next _).push3 _ _ _) hm20 ?_
     rw [hF.p3]
     refine Tq21 ?_
     refine tc (ho2.2) ((hW.next _).push3 _ _ _) hm21 ?_
     rw [hF.p3]
     refine Tq21 ?_
     refine cY (.inr rfl) ((hW.next _).push3 _ _ _) hlk2 ?_
     rw [hF.p3]
     rw [es2]
     simp only [go_sem,e25]
     refine ⟨k2+1,by omega,by omega,eNt (ah (ah (hcl1 _) (jn (x:=eJ a) fun _=>lW a)) (jn (x:=aB x1) fun _=>cj x1)) ?_ ?_ (a:=by simp only [zkq,zkv,zle,ak];omega)⟩
     ·exact Y18
     ·exact Y14
    ·have hk2':k2=x1.cases.length:=sHc
     subst hk2'
     rw [List.take_length]
     rw [← hE23]
     refine Tq9 ?_
     refine cY (.inr rfl) ((hW.next _).push2 _ _) hlk1 ?_
     rw [hF.p2]
     rw [es1]
     refine Tq65 ?_
     refine ⟨k1+1,by omega,by omega,eNt (ah (hcl1 _) (jn (x:=eJ a) fun _=>lW a)) ?_ ?_ (a:=by simp only [zkq,zkv,zle,ak];omega)⟩
     ·exact Y18
     ·exact Y14
   ·have hk1':k1=a.states.length:=sHc
    subst hk1'
    rw [List.take_length]
    rw [← hE12]
    refine Tq7 ?_
    exact Y20
end Go.AL
