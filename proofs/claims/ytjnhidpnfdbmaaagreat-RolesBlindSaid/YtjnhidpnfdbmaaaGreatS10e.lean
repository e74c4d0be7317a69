/- Lemmas of the proof; no condition. -/
import Derived.Test.YtjnhidpnfdbmaaaGreatS10z
import Derived.Test.YtjnhidpnfdbmaaaGreatLVal
import Derived.Test.YtjnhidpnfdbmaaaGreatLSch2
set_option linter.all false
set_option maxRecDepth 10000
set_option maxHeartbeats 32000000
open List renaming length_cons → yaz, length_nil → yba, take_of_length_le → ybc, drop_append → ybd, take_append → ybe, drop_eq_nil_of_le → ybf, cons_append → yal, nil_append → yak, take_succ_cons → yaq, take_zero → yar, drop_succ_cons → yao, drop_zero → yap, map_cons → yae, getD_cons_zero → yau
open Go Go.AL Go.Proofs
namespace Go.AL
theorem IY:ti Tryz.prog 3=some ⟨.int .i64,1,8,.int .i64 0⟩:=by kernel_rfl
theorem CS:ti Tryz.prog 78=some ⟨.struct [(0,3,false),(1,9,false),(2,3,false)],3,32,.agg [.int .i64 0,.str [],.int .i64 0]⟩:=by kernel_rfl
theorem Ai:ti Tryz.prog 80=some ⟨.struct [(0,3,false),(1,9,false),(2,50,false)],3,48,.agg [.int .i64 0,.str [],.slice .nil 1 []]⟩:=by kernel_rfl
theorem Fg:ti Tryz.prog 119=some ⟨.struct [(0,29,false),(2,29,false),(4,3,false)],5,40,.agg [.int .u64 0,.int .u64 0,.int .u64 0,.int .u64 0,.int .i64 0]⟩:=by kernel_rfl
theorem CW:ti Tryz.prog 117=some ⟨.struct [(0,3,false),(1,3,false),(2,3,false),(3,115,false),(4,3,false)],5,56,.agg [.int .i64 0,.int .i64 0,.int .i64 0,.slice .nil 1 [],.int .i64 0]⟩:=by kernel_rfl
theorem Fy:ti Tryz.prog 123=some ⟨.struct [(0,3,false),(1,3,false),(2,121,false)],6,48,.agg [.int .i64 0,.int .i64 0,.int .i64 0,.int .i64 0,.int .u64 0,.int .u64 0]⟩:=by kernel_rfl
theorem yd:ti Tryz.prog 121=some ⟨.struct [(0,3,false),(1,3,false),(2,29,false)],4,32,.agg [.int .i64 0,.int .i64 0,.int .u64 0,.int .u64 0]⟩:=by kernel_rfl
theorem D5:ti Tryz.prog 110=some ⟨.struct [(0,9,false),(1,3,false)],2,24,.agg [.str [],.int .i64 0]⟩:=by kernel_rfl
theorem zG:ti Tryz.prog 107=some ⟨.struct [(0,3,false),(1,9,false),(2,104,false),(3,105,false),(4,9,false)],5,88,.agg [.int .i64 0,.str [],.slice .nil 1 [],.slice .nil 1 [],.str []]⟩:=by kernel_rfl
theorem I0:ti Tryz.prog 102=some ⟨.struct [(0,9,false),(1,3,false),(2,3,false)],3,32,.agg [.str [],.int .i64 0,.int .i64 0]⟩:=by kernel_rfl
theorem CY:ti Tryz.prog 91=some ⟨.struct [(0,3,false),(1,9,false),(2,89,false),(3,50,false),(4,3,false),(5,24,false),(6,3,false),(7,9,false)],8,128,.agg [.int .i64 0,.str [],.slice .nil 1 [],.slice .nil 1 [],.int .i64 0,.slice .nil 1 [],.int .i64 0,.str []]⟩:=by kernel_rfl
theorem DQ:ti Tryz.prog 86=some ⟨.struct [(0,3,false),(1,3,false)],2,16,.agg [.int .i64 0,.int .i64 0]⟩:=by kernel_rfl
theorem CD:ti Tryz.prog 69=some ⟨.struct [(0,3,false),(1,4,false),(2,4,false),(3,67,false)],4,40,.agg [.int .i64 0,.bool false,.bool false,.slice .nil 1 []]⟩:=by kernel_rfl
theorem Fi:ti Tryz.prog 65=some ⟨.struct [(0,3,false),(1,9,false),(2,63,false),(3,50,false),(4,3,false),(5,4,false)],6,88,.agg [.int .i64 0,.str [],.slice .nil 1 [],.slice .nil 1 [],.int .i64 0,.bool false]⟩:=by kernel_rfl
theorem IU:ti Tryz.prog 88=some ⟨.struct [(0,3,false),(1,3,false),(2,3,false),(3,3,false),(4,3,false),(5,3,false)],6,48,.agg [.int .i64 0,.int .i64 0,.int .i64 0,.int .i64 0,.int .i64 0,.int .i64 0]⟩:=by kernel_rfl
theorem AB:ti Tryz.prog 39=some ⟨.struct [(0,30,false),(1,31,false),(2,32,false),(3,33,false),(4,34,false),(5,35,false),(6,36,false),(7,37,false),(8,3,false),(9,3,false)],10,208,.agg [.slice .nil 1 [],.slice .nil 1 [],.slice .nil 1 [],.slice .nil 1 [],.slice .nil 1 [],.slice .nil 1 [],.slice .nil 1 [],.slice .nil 1 [],.int .i64 0,.int .i64 0]⟩:=by kernel_rfl
theorem qC:ti Tryz.prog 47=some ⟨.struct [(0,4,false),(1,29,false),(3,29,false),(5,3,false),(6,29,false)],8,64,.agg [.bool false,.int .u64 0,.int .u64 0,.int .u64 0,.int .u64 0,.int .i64 0,.int .u64 0,.int .u64 0]⟩:=by kernel_rfl
theorem CO:ti Tryz.prog 26=some ⟨.struct [(0,3,false),(1,23,false),(2,3,false),(3,3,false),(4,24,false)],5,72,.agg [.int .i64 0,.slice .nil 1 [],.int .i64 0,.int .i64 0,.slice .nil 1 []]⟩:=by kernel_rfl
theorem El:ti Tryz.prog 30=some ⟨.slice 78,1,24,.slice .nil 1 []⟩:=by kernel_rfl
theorem z6:ti Tryz.prog 31=some ⟨.slice 80,1,24,.slice .nil 1 []⟩:=by kernel_rfl
theorem Hq:ti Tryz.prog 115=some ⟨.slice 119,1,24,.slice .nil 1 []⟩:=by kernel_rfl
theorem DK:ti Tryz.prog 32=some ⟨.slice 117,1,24,.slice .nil 1 []⟩:=by kernel_rfl
theorem HO:ti Tryz.prog 105=some ⟨.slice 123,1,24,.slice .nil 1 []⟩:=by kernel_rfl
theorem CR:ti Tryz.prog 104=some ⟨.slice 110,1,24,.slice .nil 1 []⟩:=by kernel_rfl
theorem zA:ti Tryz.prog 33=some ⟨.slice 107,1,24,.slice .nil 1 []⟩:=by kernel_rfl
theorem H9:ti Tryz.prog 89=some ⟨.slice 102,1,24,.slice .nil 1 []⟩:=by kernel_rfl
theorem Eo:ti Tryz.prog 34=some ⟨.slice 91,1,24,.slice .nil 1 []⟩:=by kernel_rfl
theorem Ey:ti Tryz.prog 35=some ⟨.slice 86,1,24,.slice .nil 1 []⟩:=by kernel_rfl
theorem DJ:ti Tryz.prog 63=some ⟨.slice 69,1,24,.slice .nil 1 []⟩:=by kernel_rfl
theorem Fd:ti Tryz.prog 36=some ⟨.slice 65,1,24,.slice .nil 1 []⟩:=by kernel_rfl
theorem JF:ti Tryz.prog 37=some ⟨.slice 88,1,24,.slice .nil 1 []⟩:=by kernel_rfl
theorem CC:ti Tryz.prog 23=some ⟨.slice 47,1,24,.slice .nil 1 []⟩:=by kernel_rfl
theorem Ex:ti Tryz.prog 56=some ⟨.slice 26,1,24,.slice .nil 1 []⟩:=by kernel_rfl
theorem Ii:ti Tryz.prog 24=some ⟨.slice 29,1,24,.slice .nil 1 []⟩:=by kernel_rfl
theorem JD:ti Tryz.prog 50=some ⟨.slice 3,1,24,.slice .nil 1 []⟩:=by kernel_rfl
theorem GP:ti Tryz.prog 67=some ⟨.slice 4,1,24,.slice .nil 1 []⟩:=by kernel_rfl
attribute [go_sem] IY CS Ai Fg CW Fy yd D5 zG I0 CY DQ CD Fi IU AB qC CO El z6 Hq DK HO CR zA H9 Eo Ey DJ Fd JF CC Ex Ii JD GP
def bE:List AV→AHeap→(AEnd→AHeap→Prop)→Prop
 |[.ptr id 0],H,K=>onC (H.get id) fun b v=>K (.ret (.bool (decide (cv b v 2=1)))) (H.set id (cL b (v+1)))
 |_,_,_=>False
theorem kV:EntOk Tryz.prog 29 (Ent.effect bE):=by
 refine EntOk.effect fun args H K h=>?_
 unfold bE at h
 split at h
 rotate_left
 ·exact h.elim
 rename_i id
 obtain ⟨b,v,hg,hb,hv,hK⟩:=iQ h
 refine ⟨_,_,hK,?_⟩
 clear hK
 refine ACalls.fW au (tCq gQ tNq) Tryz.func29 [.tmp 2] (nrq _) (T:=aq []) (h:=fun hcl hlt=>?_)
 clear hlt
 have hid:=glq hg
 have hcl2:(H.set id (cL b (v+1))).Closed:=aj hcl eC
 have e2:(2:Int).toNat=2:=rfl
 simp only [go_sem,aV,hg,aT hb,cp,e2,Nat.add_zero,Nat.min_eq_left hv]
 have e:((((cv b v 2:Nat):Int))==1)=decide (cv b v 2=1):=by rw [Bool.eq_iff_iff];simp;omega
 refine ⟨⟨by decide,by decide⟩,?_⟩
 rw [e]
 exact Z8
theorem jf {id n:Nat} (h:id<n):((id=n)=False)∧((id=n+1)=False)∧((id=n+1+1)=False)∧((id=n+1+1+1)=False)∧((id=n+1+1+1+1)=False)∧((id=n+1+1+1+1+1)=False)∧((id=n+1+1+1+1+1+1)=False)∧((id=n+1+1+1+1+1+1+1)=False)∧((id=n+1+1+1+1+1+1+1+1)=False)∧((id=n+1+1+1+1+1+1+1+1+1)=False)∧((id=n+1+1+1+1+1+1+1+1+1+1)=False)∧((id=n+1+1+1+1+1+1+1+1+1+1+1)=False)∧((id=n+1+1+1+1+1+1+1+1+1+1+1+1)=False)∧((id=n+1+1+1+1+1+1+1+1+1+1+1+1+1)=False)∧((id=n+1+1+1+1+1+1+1+1+1+1+1+1+1+1)=False)∧((id=n+1+1+1+1+1+1+1+1+1+1+1+1+1+1+1)=False) :=
 ⟨eq_false (by omega),eq_false (by omega),eq_false (by omega),eq_false (by omega),eq_false (by omega),eq_false (by omega),eq_false (by omega),eq_false (by omega),eq_false (by omega),eq_false (by omega),eq_false (by omega),eq_false (by omega),eq_false (by omega),eq_false (by omega),eq_false (by omega),eq_false (by omega)⟩
theorem jJ {H:AHeap} {id:Nat} (h:id<H.nx) (b:List UInt8) (v:Nat):(H.set id (cL b v)).get id=some (cL b v):=AHeap.get_set_same _ _ h
theorem iD {b:List UInt8} {v:Nat}:([AV.int .i64 0,.int .i64 0,.int .i64 65535,.int .i64 3].getD (cv b v 4) .junk)=.int .i64 (l5 (cv b v 4)):=by
 have h:=c8 (b:=b) (v:=v) (n:=4) (by decide)
 unfold l5
 generalize cv b v 4=c at *
 match c,h with
 |0,_=>rfl
 |1,_=>rfl
 |2,_=>rfl
 |3,_=>rfl
theorem a8 {α:Type} {n sz:Nat} {f:α→AV} {l:List α} (h:∀ x,AV.lt n (f x)):AV.lt n (.slice .any sz (l.map f)):=EJ fun x hx=>by
 obtain ⟨y,_,rfl⟩:=List.mem_map.1 hx
 exact h y
theorem ir {n v:Nat} {l:List AV}:ltL n (vc v++l)=ltL n l:=by simp [vc,znu,znf]
theorem fH {n v:Nat}:ltL n (vc v)=True:=by simp [vc,znu,znv,znf]
theorem lB {n:Nat} {l:List Int}:AV.lt n (.slice .any 1 (inL l)):=a8 fun x=>by simp only [znf]
theorem tQ {n:Nat} {l:List Bool}:AV.lt n (.slice .any 1 (boL l)):=a8 fun x=>by simp only [zng]
theorem xn {n:Nat} {l:List Nat}:AV.lt n (.slice .any 2 (l.map vv)):=a8 fun x=>by simp only [vv,znr,znu,znv,znf,and_true]
theorem mR {n:Nat} (x:SField):AV.lt n (cn x):=by
 simp only [cn,znr,znu,znv,znf,znh,zng,ir,fH,List.append_assoc,yal,yak,true_and,and_true]
theorem qK {n:Nat} (x:SHeader):AV.lt n (iT x):=by
 simp only [iT,znr,znu,znv,znf,znh,zng,ir,fH,List.append_assoc,yal,yak,true_and,and_true]
 exact lB
theorem JW {n:Nat} (x:SCase):AV.lt n (ot x):=by
 simp only [ot,znr,znu,znv,znf,znh,zng,ir,fH,List.append_assoc,yal,yak,true_and,and_true]
theorem fA {n:Nat} (x:SState):AV.lt n (dU x):=by
 simp only [dU,znr,znu,znv,znf,znh,zng,ir,fH,List.append_assoc,yal,yak,true_and,and_true]
 exact a8 JW
theorem Jc {n:Nat} (x:SPrim):AV.lt n (xF x):=by
 simp only [xF,znr,znu,znv,znf,znh,zng,ir,fH,List.append_assoc,yal,yak,true_and,and_true]
theorem mW {n:Nat} (x:SParam):AV.lt n (cq x):=by
 simp only [cq,znr,znu,znv,znf,znh,zng,ir,fH,List.append_assoc,yal,yak,true_and,and_true]
theorem iK {n:Nat} (x:SAction):AV.lt n (bg x):=by
 simp only [bg,znr,znu,znv,znf,znh,zng,ir,fH,List.append_assoc,yal,yak,true_and,and_true]
 exact ⟨a8 mW,a8 Jc⟩
theorem tB {n:Nat} (x:SKey):AV.lt n (bU x):=by
 simp only [bU,znr,znu,znv,znf,znh,zng,ir,fH,List.append_assoc,yal,yak,true_and,and_true]
theorem cS {n:Nat} (x:STable):AV.lt n (ba x):=by
 simp only [ba,znr,znu,znv,znf,znh,zng,ir,fH,List.append_assoc,yal,yak,true_and,and_true]
 exact ⟨a8 tB,lB,xn⟩
theorem xX {n:Nat} (x:SStage):AV.lt n (lF x):=by
 simp only [lF,znr,znu,znv,znf,znh,zng,ir,fH,List.append_assoc,yal,yak,true_and,and_true]
theorem jD {n:Nat} (x:SGrant):AV.lt n (bb x):=by
 simp only [bb,znr,znu,znv,znf,znh,zng,ir,fH,List.append_assoc,yal,yak,true_and,and_true]
 exact tQ
theorem nz {n:Nat} (x:SRole):AV.lt n (bX x):=by
 simp only [bX,znr,znu,znv,znf,znh,zng,ir,fH,List.append_assoc,yal,yak,true_and,and_true]
 exact ⟨a8 jD,lB⟩
theorem GF {n:Nat} (x:SRef):AV.lt n (sZ x):=by
 simp only [sZ,znr,znu,znv,znf,znh,zng,ir,fH,List.append_assoc,yal,yak,true_and,and_true]
theorem qH {n:Nat} (x:Sch):AV.lt n (sN x):=by
 simp only [sN,aW,znr,znu,znv,znf,true_and,and_true]
 exact ⟨a8 mR,a8 qK,a8 fA,a8 iK,a8 cS,a8 xX,a8 nz,a8 GF⟩
theorem Ft {b:List UInt8} {u n:Nat} (h:0<n):(0≤((cv b u n:Nat):Int)∧((cv b u n:Nat):Int)<(n:Int))=True:=eq_true ⟨by omega,by have:=c8 (b:=b) (v:=u) h;omega⟩
def eG (g:List UInt8→Nat→AV × Nat):List AV→AHeap→(AEnd→AHeap→Prop)→Prop
 |[.ptr id 0],H,K=>onC (H.get id) fun b v=>K (.ret (g b v).1) (H.set id (cL b (g b v).2))
 |_,_,_=>False
def qW:=eG fun b v=>(.slice .any 5 ((bh b v).1.map dU),(bh b v).2)
theorem AZ:EntOk Tryz.prog 25 (Ent.effect qW):=by
 unfold qW
 refine EntOk.effect fun args H K h=>?_
 unfold eG at h
 split at h
 rotate_left
 ·exact h.elim
 rename_i id
 obtain ⟨b,v,hg,hb,hv,hK⟩:=iQ h
 refine ⟨_,_,hK,?_⟩
 clear hK
 refine ACalls.fW au (tCq gQ (tCq kV tNq)) Tryz.func25 [.tmp 2] (nrq _) (T:=aq [(5,[[],[],[],[],[],[3],[],[],[],[],[3],[],[3,10],[],[3,10,12],[1,3,10,12],[],[1,3,10,12]]),(10,[[16]])]) (h:=fun hcl hlt=>?_)
 clear hlt
 have hid:=glq hg
 have hne:=jf hid
 have hgc:=jJ (b:=b) hid
 have hcl2:∀ w,(H.set id (cL b w)).Closed:=fun w=>aj hcl eC
 have c4:∀ u,(0≤((cv b u 4:Nat):Int)∧((cv b u 4:Nat):Int)<((4:Nat):Int))=True:=fun u=>Ft (by decide)
 simp only [go_sem,aV,bE,hg,hgc,aT hb,bm,aL,bx,hne,iD,c4,iNq]
 have w8:∀ u,IntKind.u64.wrap (IntKind.i64.wrap (8*((cv b u 2:Nat):Int)))=((8*cv b u 2:Nat):Int):=fun u=>by
  have:=c8 (b:=b) (v:=u) (n:=2) (by decide)
  rw [wrap_i64 (by omega) (by omega),cP (by omega) (by omega)];omega
 have w1:∀ u,IntKind.i64.wrap (1+((cv b u 3:Nat):Int))=1+((cv b u 3:Nat):Int):=fun u=>by
  have:=c8 (b:=b) (v:=u) (n:=3) (by decide)
  rw [wrap_i64 (by omega) (by omega)]
 have hvs:∀ u,vc (8*cv b u 2)=[.int .u64 0,.int .u64 ((8*cv b u 2:Nat):Int)]:=fun u=>fY (by
  have:=c8 (b:=b) (v:=u) (n:=2) (by decide)
  omega)
 refine ⟨by decide,ai (fun h1=>?_) (fun h1=>?_)⟩
 ·have h1':cv b (v+1) 2=1:=of_decide_eq_true h1
  simp only [aZ,aH,bhq,Nat.reduceMod,Nat.reduceDiv,aC,aB,aE,aS,aD,aR,aO,aP,aQ,yaq,yar,yao,yap,go_sem,aV,bE,hg,hgc,aT hb,bm,aL,bx,hne,iD,c4,w8,w1,iNq]
  refine ⟨by decide,by decide,⟨by simp [ziq,zgq,zgr,zgs],by decide,by decide,ai (fun h2=>?_) (fun h2=>?_)⟩⟩
  ·have h2':cv b (v+5) 3=1:=by simp [cp] at h2;omega
   simp only [aZ,aH,bhq,Nat.reduceMod,Nat.reduceDiv,aC,aB,aE,aS,aD,aR,aO,aP,aQ,yaq,yar,yao,yap,go_sem,aV,bE,hg,hgc,aT hb,bm,aL,bx,hne,iD,c4,w8,w1,iNq]
   refine ⟨by decide,?_⟩
   refine iq 2 (.slice .any 5 ((bh b v).1.map dU)) ?_ ?_
   ·exact Z9
   ·have e:(bh b v).2=cp v 7:=by unfold bh;simp only [h1',h2',if_true,if_false];rfl
    rw [e]
    simp only [go_sem,bhq,Nat.reduceMod,Nat.reduceDiv,aC,aB,aE,aS,aD,aR,aO,aP,aQ,yaq,yar,yao,yap]
    simp (disch:=first|exact Zd|omega) [↓zmo,beq,ybc,ybd,ybe,ae,wk,wk2,wk1,wkM,wkL,ah,ybf,hcl2]
    first|exact a8 fA|exact ⟨by repeat first|exact .refl _|refine .push ?_ _,a8 fA⟩
  ·have h2':¬ cv b (v+5) 3=1:=by simp [cp] at h2;omega
   simp only [aZ,aH,bhq,Nat.reduceMod,Nat.reduceDiv,aC,aB,aE,aS,aD,aR,aO,aP,aQ,yaq,yar,yao,yap,go_sem,aV,bE,hg,hgc,aT hb,bm,aL,bx,hne,iD,c4,w8,w1,iNq]
   refine iq 2 (.slice .any 5 ((bh b v).1.map dU)) ?_ ?_
   ·exact Z9
   ·have e:(bh b v).2=cp v 6:=by unfold bh;simp only [h1',h2',if_true,if_false];rfl
    rw [e]
    simp only [go_sem,bhq,Nat.reduceMod,Nat.reduceDiv,aC,aB,aE,aS,aD,aR,aO,aP,aQ,yaq,yar,yao,yap]
    simp (disch:=first|exact Zd|omega) [↓zmo,beq,ybc,ybd,ybe,ae,wk,wk2,wk1,wkM,wkL,ah,ybf,hcl2]
    first|exact a8 fA|exact ⟨by repeat first|exact .refl _|refine .push ?_ _,a8 fA⟩
 ·have h1':¬ cv b (v+1) 2=1:=of_decide_eq_false h1
  simp only [aZ,aH,bhq,Nat.reduceMod,Nat.reduceDiv,aC,aB,aE,aS,aD,aR,aO,aP,aQ,yaq,yar,yao,yap,go_sem,aV,bE,hg,hgc,aT hb,bm,aL,bx,hne,iD,c4,w8,w1,iNq]
  refine ⟨by decide,by decide,ai (fun h2=>?_) (fun h2=>?_)⟩
  ·have h2':cv b (v+3) 3=1:=by simp [cp] at h2;omega
   simp only [aZ,aH,bhq,Nat.reduceMod,Nat.reduceDiv,aC,aB,aE,aS,aD,aR,aO,aP,aQ,yaq,yar,yao,yap,go_sem,aV,bE,hg,hgc,aT hb,bm,aL,bx,hne,iD,c4,w8,w1,iNq]
   refine ⟨by decide,?_⟩
   refine iq 2 (.slice .any 5 ((bh b v).1.map dU)) ?_ ?_
   ·exact Z9
   ·have e:(bh b v).2=cp v 5:=by unfold bh;simp only [h1',h2',if_true,if_false];rfl
    rw [e]
    simp only [go_sem,bhq,Nat.reduceMod,Nat.reduceDiv,aC,aB,aE,aS,aD,aR,aO,aP,aQ,yaq,yar,yao,yap]
    simp (disch:=first|exact Zd|omega) [↓zmo,beq,ybc,ybd,ybe,ae,wk,wk2,wk1,wkM,wkL,ah,ybf,hcl2]
    first|exact a8 fA|exact ⟨by repeat first|exact .refl _|refine .push ?_ _,a8 fA⟩
  ·have h2':¬ cv b (v+3) 3=1:=by simp [cp] at h2;omega
   simp only [aZ,aH,bhq,Nat.reduceMod,Nat.reduceDiv,aC,aB,aE,aS,aD,aR,aO,aP,aQ,yaq,yar,yao,yap,go_sem,aV,bE,hg,hgc,aT hb,bm,aL,bx,hne,iD,c4,w8,w1,iNq]
   refine iq 2 (.slice .any 5 ((bh b v).1.map dU)) ?_ ?_
   ·exact Z9
   ·have e:(bh b v).2=cp v 4:=by unfold bh;simp only [h1',h2',if_true,if_false];rfl
    rw [e]
    simp only [go_sem,bhq,Nat.reduceMod,Nat.reduceDiv,aC,aB,aE,aS,aD,aR,aO,aP,aQ,yaq,yar,yao,yap]
    simp (disch:=first|exact Zd|omega) [↓zmo,beq,ybc,ybd,ybe,ae,wk,wk2,wk1,wkM,wkL,ah,ybf,hcl2]
    first|exact a8 fA|exact ⟨by repeat first|exact .refl _|refine .push ?_ _,a8 fA⟩
theorem As:ti Tryz.prog 124=some ⟨.slice 9,1,24,.slice .nil 1 []⟩:=by kernel_rfl
theorem yQ:ti Tryz.prog 125=some ⟨.slice 124,1,24,.slice .nil 1 []⟩:=by kernel_rfl
attribute [go_sem] As yQ
def JnT {α:Type} (F:α→Fr) (G:α→AHeap) (I:α→Prop) (K:Fr→AHeap→Prop):Prop:=∀ x,I x→K (F x) (G x)
theorem jA {α:Type} (F:α→Fr) (G:α→AHeap) (I:α→Prop) {K:Fr→AHeap→Prop} {C:Prop} (h:JnT F G I K→C) (hJ:JnT F G I K):C:=h hJ
theorem dY {α:Type} {F:α→Fr} {G:α→AHeap} {I:α→Prop} {n0:Nat} {K:Fr→AHeap→Prop} {fr:Fr} {H:AHeap} (J:JnT F G I K) (x:α) (hx:I x) (he:enterW n0 fr H (F x) (G x)):ii n0 K fr H:=qe _ _ he (J x hx)
theorem AS {F:Nat × AHeap→Fr} {I:Nat × AHeap→Prop} {n0 s id off sz len:Nat} {K:Fr→AHeap→Prop} {fr:Fr} {H:AHeap} (J:JnT F (fun x=>x.2) (fun x=>x.2.Closed∧I x) K) (hs:Fr.get fr s=.ms id off sz len) (hc:H.Closed) (hx:I (id,H)) (hn:n0≤H.nx) (hl:ltF H.nx (F (id,H))) (hw:aJ H H (F (id,H)) fr):ii n0 K fr H:=qe _ _ ⟨hn,lRq _,hc,hl,hw⟩ (J _ ⟨hc,hx⟩)
theorem vF {n0 s id off sz len:Nat} {K:Fr→AHeap→Prop} {fr:Fr} {H:AHeap} {cs:List AV} (cs':List AV) (hs:Fr.get fr s=.ms id off sz len) (hc:aA H id=some cs) (h:l9 cs cs') (hk:K fr (H.set id (.cells cs'))):ii n0 K fr H:=di id cs' hc h hk
structure But (id:Nat) (H Hc:AHeap):Prop where
 nx:H.nx≤Hc.nx
 get:∀ j x,j≠id→H.get j=some x→Hc.get j=some x
theorem But.push {id:Nat} {H Hc:AHeap} (h:But id H Hc) (o:AObj):But id H (Hc.push o):=⟨by rw [zle];exact Nat.le_succ_of_le h.nx,fun j x hj hx=>by
 have:=h.get j x hj hx
 rw [gPq _ _ (glq this)];exact this⟩
theorem But.set {id i:Nat} {H Hc:AHeap} (h:But id H Hc) (o:AObj) (hi:i=id∨H.nx≤i):But id H (Hc.set i o):=⟨by rw [zlf];exact h.nx,fun j x hj hx=>by
 have hlt:=glq hx
 rw [AHeap.get_set_ne _ _ (by rcases hi with rfl|hi<;>omega)]
 exact h.get j x hj hx⟩
theorem But.del {id i:Nat} {H Hc:AHeap} (h:But id H Hc) (hi:H.nx≤i):But id H (Hc.del i):=⟨by rw [fB];exact h.nx,fun j x hj hx=>by
 have hlt:=glq hx
 rw [g9,if_neg (by omega)]
 exact h.get j x hj hx⟩
theorem But.self {id:Nat} {H:AHeap}:But id H H:=⟨nrq _,fun _ _ _ h=>h⟩
theorem But.le {id:Nat} {H Hc:AHeap} {o:AObj} (h:But id H Hc) (hg:Hc.get id=some o):(H.set id o).Le Hc:=Jv h.get hg h.nx
theorem wa {H:AHeap} {i j:Nat} {o o':AObj} (h:i≠j):(H.set i o).set j o'=(H.set j o').set i o:=by
 simp only [AHeap.set,AHeap.mk.injEq,true_and]
 funext k
 by_cases h1:k=i
 ·subst h1;simp [h]
 ·simp [h1]
theorem HJ {H:AHeap} {i:Nat} {o o':AObj}:(H.set i o).set i o'=H.set i o':=by
 simp only [AHeap.set,AHeap.mk.injEq,true_and]
 funext k
 by_cases h1:k=i<;>simp [h1]
def CJ (b:List UInt8) (v k:Nat):List STable:=(bD b v).take k++((bD b v).drop k).map fun t=>{ t with restr:=[] }
def u3 (b:List UInt8) (v k:Nat):List AV:=(CJ b v k).flatMap fun t=>(ba t).cells
theorem kH {α:Type} {n:Nat} {f:α→AV} {l:List α} (h:∀ x,AV.lt n (f x)):ltL n (l.flatMap fun x=>(f x).cells):=ltL_iff.2 fun j hj=>by
 obtain ⟨x,_,hx⟩:=List.mem_flatMap.1 (gMq hj)
 obtain ⟨k,hk,e⟩:=List.mem_iff_getElem.1 hx
 rw [← e];exact AV.lt_cells (h x) k hk
theorem jd {α:Type} {sz:Nat} (h1:sz≠1) (f:α→List AV) (hf:∀ x,(f x).length=sz):∀ l:List α,bA sz l.length (l.flatMap f)=l.map fun x=>.agg (f x)
 |[]=>rfl
 |x::l=>by
  rw [yaz,List.flatMap_cons,bA,if_neg h1,yae,show (f x++l.flatMap f).drop sz=l.flatMap f by rw [← hf x,List.drop_left],jd h1 f hf l]
  congr 2
  apply List.ext_getElem
  ·simp [hf]
  ·intro j a1 a2
   simp only [List.getElem_map,List.getElem_range]
   rw [gEq,List.getElem?_append_left a2,gQq a2];rfl
def lS:AV:=.slice .any 1 [.slice .any 1 (gText0.map .str),.slice .any 1 (gText1.map .str),.slice .any 1 (gText2.map .str),.slice .any 1 (gText3.map .str)]
def ql:=eG fun b v=>(.slice .any 8 ((bD b v).map ba),v+12)
theorem AN:EntOk Tryz.prog 27 (Ent.effect ql):=by
 unfold ql
 refine EntOk.effect fun args H K h=>?_
 unfold eG at h
 split at h
 rotate_left
 ·exact h.elim
 rename_i id
 obtain ⟨b,v,hg,hb,hv,hK⟩:=iQ h
 refine ⟨_,_,hK,?_⟩
 clear hK
 refine ACalls.fW au (tCq gQ (tCq kV tNq)) Tryz.func27 [.tmp 2] (nrq _) (T:=aq [(16,[[],[],[],[],[],[],[],[],[],[7],[],[],[5,7,9]]),(11,[[14]]),(13,[[1,1,1]])]) (h:=fun hcl hlt=>?_)
 clear hlt
 have hid:=glq hg
 have hne:=jf hid
 have hne2:=jf (show id<H.nx+1+1+1+1+1+1+1+1+1+1+1+1+1+1+1+1 by omega)
 have hgc:=jJ (b:=b) hid
 have hcl2:∀ w,(H.set id (cL b w)).Closed:=fun w=>aj hcl eC
 have c3:∀ u,(0≤((cv b u 3:Nat):Int)∧((cv b u 3:Nat):Int)<((3:Nat):Int))=True:=fun u=>Ft (by decide)
 have w1:∀ (u n:Nat) (k:Int),0<n→n≤100→0≤k→k≤100→IntKind.i64.wrap (k+((cv b u n:Nat):Int))=k+((cv b u n:Nat):Int):=fun u n k h1 h2 h3 h4=>by
  have:=c8 (b:=b) (v:=u) (n:=n) h1
  rw [wrap_i64 (by omega) (by omega)]
 have e2:(2:Int).toNat=2:=rfl
 have e5:(5:Int).toNat=5:=rfl
 have e6:(6:Int).toNat=6:=rfl
 have e3:(3:Int).toNat=3:=rfl
 have a12:∀ u,IntKind.i64.wrap (1+((cv b u 2:Nat):Int))=1+((cv b u 2:Nat):Int):=fun u=>w1 u 2 1 (by decide) (by decide) (by decide) (by decide)
 have a25:∀ u,IntKind.i64.wrap (2+((cv b u 5:Nat):Int))=2+((cv b u 5:Nat):Int):=fun u=>w1 u 5 2 (by decide) (by decide) (by decide) (by decide)
 have a36:∀ u,IntKind.i64.wrap (3+((cv b u 6:Nat):Int))=3+((cv b u 6:Nat):Int):=fun u=>w1 u 6 3 (by decide) (by decide) (by decide) (by decide)
 have a46:∀ u,IntKind.i64.wrap (4+((cv b u 6:Nat):Int))=4+((cv b u 6:Nat):Int):=fun u=>w1 u 6 4 (by decide) (by decide) (by decide) (by decide)
 have a35:∀ u,IntKind.i64.wrap (3+((cv b u 5:Nat):Int))=3+((cv b u 5:Nat):Int):=fun u=>w1 u 5 3 (by decide) (by decide) (by decide) (by decide)
 simp only [go_sem,aV,bE,hg,hgc,aT hb,bm,aL,bx,hne,e2,e3,e5,e6,a12,a25,a36,a46,a35]
 apply jA (α:=Nat × AHeap) (fun x=>[(0,.ptr id 0),(7,.ms x.1 0 8 4),(8,lS)]) (fun x=>x.2) (fun x=>x.2.Closed∧H.nx≤x.1∧x.1<x.2.nx∧But id H x.2∧x.2.get id=some (cL b (cp v 8))∧x.2.get x.1=some (.cells (u3 b v 0)))
 ·intro J
  (repeat with_reducible refine Yq ?_)
  refine ai (fun h1=>?_) (fun h1=>?_)
  all_goals
   simp only [aZ,aH,bhq,Nat.reduceMod,Nat.reduceDiv,aC,aB,aE,aS,aD,aR,aO,aP,aQ,yaq,yar,yao,yap,go_sem,aV,bE,hg,hgc,aT hb,bm,aL,bx,hne,e2,e3,e5,e6,a12,a25,a36,a46,a35]
   (repeat with_reducible refine Yq ?_)
   refine ai (fun h2=>?_) (fun h2=>?_)
  all_goals
   simp only [aZ,aH,bhq,Nat.reduceMod,Nat.reduceDiv,aC,aB,aE,aS,aD,aR,aO,aP,aQ,yaq,yar,yao,yap,go_sem,aV,bE,hg,hgc,aT hb,bm,aL,bx,hne,e2,e3,e5,e6,a12,a25,a36,a46,a35]
   (repeat with_reducible refine Yq ?_)
   refine ai (fun h3=>?_) (fun h3=>?_)
  all_goals
   simp only [aZ,aH,bhq,Nat.reduceMod,Nat.reduceDiv,aC,aB,aE,aS,aD,aR,aO,aP,aQ,yaq,yar,yao,yap,go_sem,aV,bE,hg,hgc,aT hb,bm,aL,bx,hne,e2,e3,e5,e6,a12,a25,a36,a46,a35]
   (repeat with_reducible refine Yq ?_)
   refine vF (s:=7) (u3 b v 0) rfl (by simp only [go_sem];rfl) ?_ ?_
   ·first|replace h1:=of_decide_eq_true h1|replace h1:=of_decide_eq_false h1
    first|replace h2:=of_decide_eq_true h2|replace h2:=of_decide_eq_false h2
    first|replace h3:=of_decide_eq_true h3|replace h3:=of_decide_eq_false h3
    simp only [cp] at h1 h2 h3
    simp [u3,CJ,bD,ib,jp,dn,dt,ba,bU,inL,vv,h1,h2,h3,cp,AV.cells,gU,bN,bO,ce,dH,bY,gr,gW,ge,wkM]
   refine iq 8 lS ?_ ?_
   ·simp [Fr.get,lS,gText0,gText1,gText2,gText3,AV.cells,bN,bO,ce,dH,bY,gW,wkM]
   refine AS (s:=7) J rfl ?_ ?_ (by (try simp only [zkv,zkq,gh,zle,zlf]);omega) ?_ ?_
   ·repeat' (first|exact hcl2 _|refine ag ?_|refine aj ?_ ?_|refine aa ?_ ?_)
    all_goals first|exact kH fun _=>cS _|(simp [aF,znu,znv,znf,znh,zng,znr,AV.cells,yal,yak,zle,zlf];try omega)
   ·dsimp only
    refine ⟨by (try simp only [zle,zlf]);omega,by (try simp only [zle,zlf]);omega,?_,?_,?_⟩
    ·repeat (first|exact But.self|refine But.push ?_ _|refine But.set ?_ _ (by first|exact .inl rfl|exact .inr (by (try simp only [zle,zlf]);omega)))
    ·simp only [go_sem,hne,hne2,hgc,cp]
    ·simp only [go_sem]
   ·simp [ltF,znn,znp,lS,gText0,gText1,gText2,gText3,znh,aF,znu,znv,zle,zlf]
    try omega
   ·simp [aJ,wk2,wk1,wkM,Fr.get,lS]
 ·rintro ⟨i,Hc⟩ ⟨q3,q1,q2,q4,q5,q6⟩
  dsimp only at q1 q2 q3 q4 q5 q6 ⊢
  have hii:i≠id:=by omega
  have gtx:∀ u x y z,([AV.str x,.str y,.str z]:List AV).getD (cv b u 3) .junk=.str ([x,y,z].getD (cv b u 3) []):=fun u x y z=>by
   have:=c8 (b:=b) (v:=u) (n:=3) (by decide)
   rcases (by omega:cv b u 3=0∨cv b u 3=1∨cv b u 3=2) with e|e|e<;>rw [e]<;>rfl
  have hic:id<Hc.nx:=glq q5
  have hci:∀ C w,aA ((Hc.set i (.cells C)).set id (cL b w)) i=some C:=fun C w=>ax (by
   rw [AHeap.get_set_ne _ _ hii,AHeap.get_set_same _ _ q2])
  have hgd:∀ C w,((Hc.set i (.cells C)).set id (cL b w)).get id=some (cL b w):=fun C w=>AHeap.get_set_same _ _ (by rw [zlf];exact hic)
  have hsi:∀ C C' w,((Hc.set i (.cells C)).set id (cL b w)).set i (.cells C')=(Hc.set i (.cells C')).set id (cL b w):=fun C C' w=>by
   rw [← wa hii,HJ,wa hii]
  have hsd:∀ C w w',((Hc.set i (.cells C)).set id (cL b w)).set id (cL b w')=(Hc.set i (.cells C)).set id (cL b w'):=fun C w w'=>Ev
  have hclo:∀ k w,((Hc.set i (.cells (u3 b v k))).set id (cL b w)).Closed:=fun k w=>aj (aj q3 (kH fun _=>cS _)) eC
  simp only [bhq,Nat.reduceMod,Nat.reduceDiv,aC,aB,aE,aS,aD,aR,aO,aP,aQ,yaq,yar,yao,yap,go_sem]
  refine az (A:=Nat) (fun k=>[(0,.ptr id 0),(7,.ms i 0 8 4),(8,lS),(80,.int .i64 4),(81,.int .i64 (k:Int))]) (fun k=>(Hc.set i (.cells (u3 b v k))).set id (cL b (cp v (8+k)))) (fun k=>k≤4) (fun k=>4 - k) 0 (by omega) ?_ fun k hk=>?_
  ·refine ⟨by simp only [zlf,zkq,zkv];have:=q4.nx;omega,?_,hclo _ _,?_,?_⟩
   ·exact ((lQ (by rw [AHeap.get_set_ne _ _ (fun e=>hii e.symm)];exact q5)).trans (lQ q6))
   ·simp [ltF,znn,znp,znf,lS,gText0,gText1,gText2,gText3,znh,aF,znu,znv,zlf]
    omega
   ·simp [aJ,wk2,wk1,wkM,Fr.get,lS]
  simp only [go_sem]
  refine ai (fun hc=>?_) (fun hc=>?_)
  ·have hk4:k<4:=by simp at hc;omega
   have c3':∀ u,(0≤((cv b u 3:Nat):Int)∧((cv b u 3:Nat):Int)<((3:Nat):Int)):=fun u=>of_eq_true (c3 u)
   have e4:IntKind.i64.wrap ((k:Int)+1)=((k+1:Nat):Int):=by rw [wrap_i64]<;>omega
   rcases (by omega:k=0∨k=1∨k=2∨k=3) with rfl|rfl|rfl|rfl
   ·simp only [go_sem,lS,gText0,gText1,gText2,gText3,aV,hgd,hci,hsi,hsd,aT hb,bm,aL,bx,e3,gtx,c3',e4,show IntKind.i64.wrap 1=1 from by decide,iNq,zok,u3,CJ,bD,List.flatMap_cons,List.flatMap_nil,ba,AV.cells,yal,yak]
    refine ⟨by decide,by decide,by decide,1,by decide,by decide,by simp only [zlf,zkq,zkv];have:=q4.nx;omega,lRq _,hclo 1 _,?_,?_⟩
    ·simp [ltF,znn,znp,znf,znh,aF,znu,znv,zlf]
     omega
    ·simp [aJ,wk2,wk1,wkM,Fr.get]
   ·simp only [go_sem,lS,gText0,gText1,gText2,gText3,aV,hgd,hci,hsi,hsd,aT hb,bm,aL,bx,e3,gtx,c3',e4,show IntKind.i64.wrap 1=1 from by decide,iNq,zok,u3,CJ,bD,List.flatMap_cons,List.flatMap_nil,ba,AV.cells,yal,yak]
    refine ⟨by decide,by decide,by decide,2,by decide,by decide,by simp only [zlf,zkq,zkv];have:=q4.nx;omega,lRq _,hclo 2 _,?_,?_⟩
    ·simp [ltF,znn,znp,znf,znh,aF,znu,znv,zlf]
     omega
    ·simp [aJ,wk2,wk1,wkM,Fr.get]
   ·simp only [go_sem,lS,gText0,gText1,gText2,gText3,aV,hgd,hci,hsi,hsd,aT hb,bm,aL,bx,e3,gtx,c3',e4,show IntKind.i64.wrap 1=1 from by decide,iNq,zok,u3,CJ,bD,List.flatMap_cons,List.flatMap_nil,ba,AV.cells,yal,yak]
    refine ⟨by decide,by decide,by decide,3,by decide,by decide,by simp only [zlf,zkq,zkv];have:=q4.nx;omega,lRq _,hclo 3 _,?_,?_⟩
    ·simp [ltF,znn,znp,znf,znh,aF,znu,znv,zlf]
     omega
    ·simp [aJ,wk2,wk1,wkM,Fr.get]
   ·simp only [go_sem,lS,gText0,gText1,gText2,gText3,aV,hgd,hci,hsi,hsd,aT hb,bm,aL,bx,e3,gtx,c3',e4,show IntKind.i64.wrap 1=1 from by decide,iNq,zok,u3,CJ,bD,List.flatMap_cons,List.flatMap_nil,ba,AV.cells,yal,yak]
    refine ⟨by decide,by decide,by decide,4,by decide,by decide,by simp only [zlf,zkq,zkv];have:=q4.nx;omega,lRq _,hclo 4 _,?_,?_⟩
    ·simp [ltF,znn,znp,znf,znh,aF,znu,znv,zlf]
     omega
    ·simp [aJ,wk2,wk1,wkM,Fr.get]
  ·have hk4:k=4:=by simp at hc;omega
   subst hk4
   simp only [go_sem]
   have hr:bA 8 4 (u3 b v 4)=(bD b v).map ba:=jd (by decide) (fun t=>(ba t).cells) (fun _=>rfl) (bD b v)
   refine ⟨?_,?_,hcl2 _,a8 cS⟩
   ·simp only [wk,wk2,wk1,hci,yap,hr,true_or,true_and]
    rw [zmv (by rw [zlf];exact q1)]
   ·exact ((q4.set _ (.inr q1)).set _ (.inl rfl)).le (hgd _ _)
def od:=eG fun b v=>(.slice .any 5 ((cB b v).map bg),v+4)
def Dz (b:List UInt8) (v:Nat) (r1 r2:Bool):List AV:=((cB b v).map fun a=>(⟨a.id,a.name,a.params,a.body,if a.id=3∧r1=true then [112,111,114,116,32,33,61,32,48] else if a.id=5∧r2=true then [120,32,60,32,121,32,124,124,32,120,32,61,61,32,49,53] else []⟩:SAction)).flatMap fun a=>(bg a).cells
theorem Hk {b:List UInt8} {v:Nat}:Dz b v (decide (cv b (v+2) 2=1)) (decide (cv b (v+3) 2=1))=(cB b v).flatMap fun a=>(bg a).cells:=by
 by_cases h1:cv b (v+2) 2=1<;>by_cases h2:cv b (v+3) 2=1<;>simp [Dz,cB,bg,AV.cells,h1,h2]
theorem zi:EntOk Tryz.prog 26 (Ent.effect od):=by
 unfold od
 refine EntOk.effect fun args H K h=>?_
 unfold eG at h
 split at h
 rotate_left
 ·exact h.elim
 rename_i id
 obtain ⟨b,v,hg,hb,hv,hK⟩:=iQ h
 refine ⟨_,_,hK,?_⟩
 clear hK
 dsimp only
 generalize hres:AV.slice .any 5 ((cB b v).map bg)=res
 refine ACalls.fW au (tCq gQ (tCq kV tNq)) Tryz.func26 [.tmp 2] (nrq _) (T:=aq [(2,[[],[],[],[],[],[],[],[],[],[],[],[],[],[],[],[],[],[],[],[],[],[],[],[],[],[],[],[],[],[],[],[],[],[29],[29,33],[],[],[],[29,33],[],[6,12,22,29,33]]),(802,[[100002],[100005],[100008],[100011],[100016],[100020],[100026],[100044]]),(1202,[[40]]),(3,[[1]])]) (h:=fun hcl hlt=>?_)
 clear hlt
 have hid:=glq hg
 have hne:=jf hid
 have hne2:=jf (show id<H.nx+1+1+1+1+1+1+1+1+1+1+1+1+1+1+1+1 by omega)
 have hgc:=jJ (b:=b) hid
 have hcl2:∀ w,(H.set id (cL b w)).Closed:=fun w=>aj hcl eC
 have e2:(2:Int).toNat=2:=rfl
 have e256:(256:Int).toNat=256:=rfl
 have a22:∀ u,IntKind.i64.wrap (2+((cv b u 2:Nat):Int))=2+((cv b u 2:Nat):Int):=fun u=>by
  have:=c8 (b:=b) (v:=u) (n:=2) (by decide)
  rw [wrap_i64 (by omega) (by omega)]
 have u256:∀ u,IntKind.u64.wrap ((cv b u 256:Nat):Int)=((cv b u 256:Nat):Int):=fun u=>by
  have:=c8 (b:=b) (v:=u) (n:=256) (by decide)
  rw [cP (by omega) (by omega)]
 simp only [go_sem,aV,bE,hg,hgc,aT hb,bm,aL,bx,hne,hne2,e2,e256,a22,u256]
 (repeat with_reducible refine Yq ?_)
 simp only [aZ,aH,bhq,Nat.reduceMod,Nat.reduceDiv,aC,aB,aE,aS,aD,aR,aO,aP,aQ,yaq,yar,yao,yap,go_sem,aV,bE,hg,hgc,aT hb,bm,aL,bx,hne,hne2,e2,e256,a22,u256]
 refine vF (s:=4) (Dz b v false false) rfl (by simp only [go_sem];rfl) ?_ ?_
 ·simp [Dz,cB,bg,cq,xF,vc,cp,AV.cells,gU,bN,bO,ce,dH,bY,gr,gW,ge,wkM]
  have:=c8 (b:=b) (v:=v+1) (n:=256) (by decide)
  omega
 simp only [aZ,aH,bhq,Nat.reduceMod,Nat.reduceDiv,aC,aB,aE,aS,aD,aR,aO,aP,aQ,yaq,yar,yao,yap,go_sem,aV,bE,hg,hgc,aT hb,bm,aL,bx,hne,hne2,e2,e256,a22,u256]
 refine ai (fun h1=>?_) (fun h1=>?_)
 all_goals
  simp only [aZ,aH,bhq,Nat.reduceMod,Nat.reduceDiv,aC,aB,aE,aS,aD,aR,aO,aP,aQ,yaq,yar,yao,yap,go_sem,aV,bE,hg,hgc,aT hb,bm,aL,bx,hne,hne2,e2,e256,a22,u256,Dz,cB,List.flatMap_cons,List.flatMap_nil,bg,AV.cells,yal,yak]
  (repeat with_reducible refine Yq ?_)
  refine ai (fun h2=>?_) (fun h2=>?_)
 all_goals
  try simp only [aZ,aH,bhq,Nat.reduceMod,Nat.reduceDiv,aC,aB,aE,aS,aD,aR,aO,aP,aQ,yaq,yar,yao,yap,go_sem,aV,bE,hg,hgc,aT hb,bm,aL,bx,hne,hne2,e2,e256,a22,u256,Dz,cB,List.flatMap_cons,List.flatMap_nil,bg,AV.cells,yal,yak]
  (repeat with_reducible refine Yq ?_)
  have hA:=Hk (b:=b) (v:=v)
  rw [show decide (cv b (v+2) 2=1)=_ from h1,show decide (cv b (v+3) 2=1)=_ from h2] at hA
  have hr:=jd (sz:=5) (by decide) (fun t=>(bg t).cells) (fun _=>rfl) (cB b v)
  rw [← hA] at hr
  subst hres
  refine ⟨?_,?_,hcl2 _,a8 iK⟩
  ·simp only [wk,wk2,wk1,go_sem,yap,true_or,true_and]
   refine ⟨?_,?_⟩
   ·exact hr.symm
   ·rw [zmv (by (try simp only [zlf]);omega)]
  ·refine But.le (id:=id) ?_ ?_
   ·repeat (first|exact But.self|refine But.push ?_ _|refine But.set ?_ _ (by first|exact .inl rfl|exact .inr (by (try simp only [zle,zlf]);omega)))
   ·simp only [go_sem,hne,hne2,hgc,cp]
def bfN (n:Nat) (f:Nat→Bool):List AV:=(List.range n).map fun i=>.bool (f i)
theorem Bp {n:Nat} {f:Nat→Bool}:(bfN n f).length=n:=by simp [bfN]
theorem BJ {n:Nat} {f g:Nat→Bool} {i:Nat} {b:Bool} (h:∀ j,j<n→g j=if j=i then b else f j):(bfN n f).set i (.bool b)=bfN n g:=by
 apply List.ext_getElem
 ·simp [bfN]
 ·intro j h1 h2
  have hj:j<n:=by simpa [bfN] using h2
  rw [List.getElem_set]
  simp only [bfN,List.getElem_map,List.getElem_range,h j hj]
  by_cases e:i=j
  ·subst e;simp
  ·rw [if_neg e,if_neg (fun x=>e x.symm)]
theorem Ix {n:Nat}:(List.replicate n [AV.bool false]).flatten=bfN n fun _=>false:=by
 induction n with
 |zero=>rfl
 |succ n ih =>
  rw [List.replicate_succ,List.flatten_cons,ih]
  apply List.ext_getElem
  ·simp [bfN]
  ·intro j h1 h2
   cases j<;>simp [bfN]
theorem BI {n:Nat} {f:Nat→Bool}:bfN n f=boL ((List.range n).map f):=by simp [bfN,boL]
theorem Cu {m n:Nat} {f:Nat→Bool}:ltL m (bfN n f)=True:=eq_true (ltL_iff.2 fun j hj=>by
 simp only [bfN,List.getElem_map]
 rw [AV.lt]<;>simp)
theorem oa:∀ (l:List Bool),bA 1 l.length (boL l)=boL l
 |[]=>rfl
 |x::l=>by
  rw [yaz,bA,if_pos rfl]
  have:=oa l
  simp only [boL,yae,yao,yap,yau,j6] at this ⊢
  rw [this]
theorem jY {α:Type} {n:Nat} {f:α→AV} {a c:List AV} {l:List α} (h:a++c=l.map f) (hf:∀ x,AV.lt n (f x)):ltL n a=True:=eq_true (ltL_iff.2 fun j hj=>by
 have:a[j]∈l.map f:=by rw [← h];exact List.mem_append_left _ (gMq hj)
 obtain ⟨x,_,e⟩:=List.mem_map.1 this
 rw [← e];exact hf x)
def rY (i j:Nat) (g:List AV):List AV:=[.int .i64 1,.str [97,108,108],.slice (.own i) 4 g,.slice (.own j) 1 [.int .i64 1,.int .i64 2,.int .i64 3,.int .i64 4,.int .i64 5,.int .i64 6],.int .i64 40,.bool true]
def lV (b:List UInt8) (v i j:Nat) (g:List AV):List AV:=[.int .i64 2,.str [115,111,109,101],.slice (.own i) 4 g,.slice (.own j) 1 [.int .i64 1,.int .i64 2,.int .i64 (3+ci b (cp v 0) 3)],.int .i64 (1+ci b (cp v 1) 6),.bool false]
def rS (b:List UInt8) (v i j:Nat) (g:List AV):List AV:=[.int .i64 7,.str [102,101,119],.slice (.own i) 4 g,.slice (.own j) 1 [.int .i64 (1+ci b (cp v 2) 6)],.int .i64 (ci b (cp v 3) 4),.bool false]
def gA (H:AHeap) (id:Nat) (b:List UInt8) (v w:Nat) (a1 a2 a3:List AV):AHeap :=
 (((((((((((H.set id (cL b (cp w 0))).push (.buf 6 0)).push (.buf 1 6)).push (.buf 4 a1.length)).push (.cells (rY (H.nx+1+1) (H.nx+1) a1))).push (.buf 1 3)).push (.buf 4 a2.length)).push (.cells (lV b v (H.nx+1+1+1+1+1) (H.nx+1+1+1+1) a2))).push (.buf 1 1)).push (.buf 4 a3.length)).push (.cells (rS b v (H.nx+1+1+1+1+1+1+1+1) (H.nx+1+1+1+1+1+1+1) a3)))
structure RolI (b:List UInt8) (ts:List STable) (R:(List SGrant × List SGrant × List SGrant) × Nat) (k w:Nat) (a1 a2 a3:List AV):Prop where
 le:k≤ts.length
 l1:a1.length≤k
 l2:a2.length≤k
 l3:a3.length≤k
 e1:a1++(co b (ts.drop k) w).1.1.map bb=R.1.1.map bb
 e2:a2++(co b (ts.drop k) w).1.2.1.map bb=R.1.2.1.map bb
 e3:a3++(co b (ts.drop k) w).1.2.2.map bb=R.1.2.2.map bb
 e4:(co b (ts.drop k) w).2=R.2
theorem gG {H:AHeap} {id:Nat} {b:List UInt8} {ts:List STable} {R:(List SGrant × List SGrant × List SGrant) × Nat} {v k w:Nat} {a1 a2 a3:List AV} (hcl:H.Closed) (h:RolI b ts R k w a1 a2 a3) (w':Nat):(gA H id b v w' a1 a2 a3).Closed:=by
 have q1:=fun n=>jY (n:=n) h.e1 jD
 have q2:=fun n=>jY (n:=n) h.e2 jD
 have q3:=fun n=>jY (n:=n) h.e3 jD
 unfold gA
 repeat' (first|exact aj hcl eC|refine ag ?_|refine aa ?_ ?_)
 all_goals simp [rY,lV,rS,aF,znu,znv,znf,znh,zng,zle,zlf,q1,q2,q3]
 all_goals omega
def oU (g:List UInt8→Nat→AV × Nat):Prop:=∀ b v,(g b (min v b.length)).1=(g b v).1∧∃ c,(g b (min v b.length)).2=min v b.length+c∧(g b v).2=v+c
def onS (o:Option AObj) (g:List UInt8→Nat→AV × Nat) (K:AV→AObj→Prop):Prop:=onC o fun b v=>K (g b v).1 (cL b (g b v).2)
@[congr] theorem LZ {o o':Option AObj} {g:List UInt8→Nat→AV × Nat} {K:AV→AObj→Prop} (h:o=o'):onS o g K=onS o' g K:=by rw [h]
theorem cm {b:List UInt8} {v:Nat} {g:List UInt8→Nat→AV × Nat} {K:AV→AObj→Prop} (hb:b.length≤1000000) (hg:oU g):onS (some (cL b v)) g K=K (g b v).1 (cL b (g b v).2):=by
 unfold onS
 rw [aT hb]
 obtain ⟨h1,c,h2,h3⟩:=hg b v
 rw [h1,h2,h3,aL]
theorem qO {g:List UInt8→Nat→AV × Nat} {id:Nat} {H:AHeap} {K:AEnd→AHeap→Prop}:eG g [.ptr id 0] H K=onS (H.get id) g fun x o=>K (.ret x) (H.set id o):=(rfl)
def mu:List UInt8→Nat→AV × Nat:=fun b v=>(.slice .any 5 ((bh b v).1.map dU),(bh b v).2)
def kF:List UInt8→Nat→AV × Nat:=fun b v=>(.slice .any 5 ((cB b v).map bg),v+4)
def mU:List UInt8→Nat→AV × Nat:=fun b v=>(.slice .any 8 ((bD b v).map ba),v+12)
theorem jx:oU mu:=fun b v=>by
 have e:bh b (min v b.length)=((bh b v).1,(bh b v).2 - v+min v b.length):=by
  unfold bh
  simp only [cF,bm]
  repeat' split
  all_goals (refine Prod.ext rfl ?_;dsimp only;omega)
 have h:∃ c,(bh b v).2=v+c:=by
  unfold bh
  repeat' split
  all_goals exact ⟨_,rfl⟩
 obtain ⟨c,hc⟩:=h
 unfold mu
 dsimp only
 rw [e]
 exact ⟨rfl,c,by dsimp only;omega,hc⟩
theorem iz:oU kF:=fun b v=>by
 have e:cB b (min v b.length)=cB b v:=by unfold cB ci;simp only [cF,bm]
 unfold kF
 dsimp only
 rw [e]
 exact ⟨rfl,4,rfl,rfl⟩
theorem jw:oU mU:=fun b v=>by
 have e:bD b (min v b.length)=bD b v:=by unfold bD ib jp dn dt ci;simp only [cF,bm]
 unfold mU
 dsimp only
 rw [e]
 exact ⟨rfl,12,rfl,rfl⟩
theorem nJ {b:List UInt8} {v k n:Nat}:iW b (min v b.length+k) n=iW b (v+k) n:=by
 unfold iW
 refine List.map_congr_left fun i _=>?_
 rw [Nat.add_assoc,Nat.add_assoc]
 unfold ci
 rw [cF]
theorem i9 {b:List UInt8} {v:Nat}:∀ (ts:List STable) (k:Nat),(co b ts (min v b.length+k)).1=(co b ts (v+k)).1∧∃ c,(co b ts (min v b.length+k)).2=min v b.length+c∧(co b ts (v+k)).2=v+c
 |[],k=>⟨rfl,k,rfl,rfl⟩
 |t::ts,k=>by
  have hb:∀ j n,cv b (min v b.length+j) n=cv b (v+j) n:=fun j n=>cF
  by_cases h1:0<cv b (v+(k+t.keys.length)) 4
  ·by_cases h2:cv b (v+(k+t.keys.length+3)) 2=1
   ·obtain ⟨i1,c,i2,i3⟩:=i9 ts (k+t.keys.length+3+3)
    simp only [Nat.add_assoc,Nat.reduceAdd] at i1 i2 i3 h1 h2
    simp only [co,Nat.add_assoc,Nat.reduceAdd,hb,ci,h1,h2,if_true,nJ]
    rw [i1]
    exact ⟨rfl,c,i2,i3⟩
   ·obtain ⟨i1,c,i2,i3⟩:=i9 ts (k+t.keys.length+3+1)
    simp only [Nat.add_assoc,Nat.reduceAdd] at i1 i2 i3 h1 h2
    simp only [co,Nat.add_assoc,Nat.reduceAdd,hb,ci,h1,h2,if_true,if_false,nJ]
    rw [i1]
    exact ⟨rfl,c,i2,i3⟩
  ·by_cases h2:cv b (v+(k+t.keys.length+1)) 2=1
   ·obtain ⟨i1,c,i2,i3⟩:=i9 ts (k+t.keys.length+1+3)
    simp only [Nat.add_assoc,Nat.reduceAdd] at i1 i2 i3 h1 h2
    simp only [co,Nat.add_assoc,Nat.reduceAdd,hb,ci,h1,h2,if_true,if_false,nJ]
    rw [i1]
    exact ⟨rfl,c,i2,i3⟩
   ·obtain ⟨i1,c,i2,i3⟩:=i9 ts (k+t.keys.length+1+1)
    simp only [Nat.add_assoc,Nat.reduceAdd] at i1 i2 i3 h1 h2
    simp only [co,Nat.add_assoc,Nat.reduceAdd,hb,ci,h1,h2,if_true,if_false,nJ]
    rw [i1]
    exact ⟨rfl,c,i2,i3⟩
theorem Cx {b:List UInt8} {v:Nat}:(mu b v).1=.slice .any 5 ((bh b v).1.map dU):=(rfl)
theorem CH {b:List UInt8} {v:Nat}:(mu b v).2=(bh b v).2:=(rfl)
theorem CQ {b:List UInt8} {v:Nat}:(kF b v).1=.slice .any 5 ((cB b v).map bg):=(rfl)
theorem Du {b:List UInt8} {v:Nat}:(kF b v).2=cp v 4:=(rfl)
theorem Dy {b:List UInt8} {v:Nat}:(mU b v).1=.slice .any 8 ((bD b v).map ba):=(rfl)
theorem Dn {b:List UInt8} {v:Nat}:(mU b v).2=cp v 12:=(rfl)
theorem vA {v k n:Nat}:cp (cp v k) n=cp v (k+n):=by unfold cp;omega
theorem tg2 {b:List UInt8} {w:Nat}:(List.map ba (bD b w)).getD 2 .junk=.agg [.int .i64 (dn b w).id,.str (dn b w).name,.slice .any 3 ((dn b w).keys.map bU),.slice .any 1 (inL (dn b w).actions),.int .i64 (dn b w).dflt,.slice .any 2 ((dn b w).dargs.map vv),.int .i64 (dn b w).size,.str (dn b w).restr]:=(rfl)
theorem tg3 {b:List UInt8} {w:Nat}:(List.map ba (bD b w)).getD 3 .junk=.agg [.int .i64 (dt b w).id,.str (dt b w).name,.slice .any 3 ((dt b w).keys.map bU),.slice .any 1 (inL (dt b w).actions),.int .i64 (dt b w).dflt,.slice .any 2 ((dt b w).dargs.map vv),.int .i64 (dt b w).size,.str (dt b w).restr]:=(rfl)
theorem tgl {b:List UInt8} {w:Nat}:(bD b w).length=4:=(rfl)
theorem k2l {b:List UInt8} {w:Nat}:(((dn b w).keys.length:Int)==3)=decide (cv b (cp w 5) 2=1):=by
 by_cases h:cv b (w+5) 2=1<;>simp [dn,cp,h]
theorem k3l {b:List UInt8} {w:Nat}:(((dt b w).keys.length:Int)==3)=decide (cv b (cp w 7) 2=1):=by
 by_cases h:cv b (w+7) 2=1<;>simp [dt,cp,h]
def Iy (p:Prop):Bool→Prop|true=>p|false=>¬ p
theorem qG {p:Prop} [Decidable p] {t:Bool} (h:decide p=t):Iy p t:=by
 cases t
 ·exact (of_decide_eq_false h:¬ p)
 ·exact (of_decide_eq_true h:p)
end Go.AL
