/- Lemmas of the proof; no condition. -/
import Derived.Test.YtjnhidpnfdbmaaaGreatS10z
import Derived.Test.YtjnhidpnfdbmaaaGreatLVal
import Derived.Test.YtjnhidpnfdbmaaaGreatLSch2
set_option linter.all false
set_option maxRecDepth 10000
set_option maxHeartbeats 32000000
open List renaming length_cons → yaz, length_nil → yba, take_of_length_le → ybc, drop_append → ybd, take_append → ybe, drop_eq_nil_of_le → ybf, cons_append → yal, nil_append → yak, take_succ_cons → yaq, take_zero → yar, drop_succ_cons → yao, drop_zero → yap, map_cons → yae, getD_cons_zero → yau
open Go Go.AL Go.Proofs
namespace Go.AL
theorem I8:ti Tryz.prog 3=some ⟨.int .i64,1,8,.int .i64 0⟩:=by kernel_rfl
theorem CA:ti Tryz.prog 78=some ⟨.struct [(0,3,false),(1,9,false),(2,3,false)],3,32,.agg [.int .i64 0,.str [],.int .i64 0]⟩:=by kernel_rfl
theorem AA:ti Tryz.prog 80=some ⟨.struct [(0,3,false),(1,9,false),(2,50,false)],3,48,.agg [.int .i64 0,.str [],.slice .nil 1 []]⟩:=by kernel_rfl
theorem Ex:ti Tryz.prog 119=some ⟨.struct [(0,29,false),(2,29,false),(4,3,false)],5,40,.agg [.int .u64 0,.int .u64 0,.int .u64 0,.int .u64 0,.int .i64 0]⟩:=by kernel_rfl
theorem DE:ti Tryz.prog 117=some ⟨.struct [(0,3,false),(1,3,false),(2,3,false),(3,115,false),(4,3,false)],5,56,.agg [.int .i64 0,.int .i64 0,.int .i64 0,.slice .nil 1 [],.int .i64 0]⟩:=by kernel_rfl
theorem F4:ti Tryz.prog 123=some ⟨.struct [(0,3,false),(1,3,false),(2,121,false)],6,48,.agg [.int .i64 0,.int .i64 0,.int .i64 0,.int .i64 0,.int .u64 0,.int .u64 0]⟩:=by kernel_rfl
theorem yS:ti Tryz.prog 121=some ⟨.struct [(0,3,false),(1,3,false),(2,29,false)],4,32,.agg [.int .i64 0,.int .i64 0,.int .u64 0,.int .u64 0]⟩:=by kernel_rfl
theorem Ds:ti Tryz.prog 110=some ⟨.struct [(0,9,false),(1,3,false)],2,24,.agg [.str [],.int .i64 0]⟩:=by kernel_rfl
theorem zu:ti Tryz.prog 107=some ⟨.struct [(0,3,false),(1,9,false),(2,104,false),(3,105,false),(4,9,false)],5,88,.agg [.int .i64 0,.str [],.slice .nil 1 [],.slice .nil 1 [],.str []]⟩:=by kernel_rfl
theorem HN:ti Tryz.prog 102=some ⟨.struct [(0,9,false),(1,3,false),(2,3,false)],3,32,.agg [.str [],.int .i64 0,.int .i64 0]⟩:=by kernel_rfl
theorem CX:ti Tryz.prog 91=some ⟨.struct [(0,3,false),(1,9,false),(2,89,false),(3,50,false),(4,3,false),(5,24,false),(6,3,false),(7,9,false)],8,128,.agg [.int .i64 0,.str [],.slice .nil 1 [],.slice .nil 1 [],.int .i64 0,.slice .nil 1 [],.int .i64 0,.str []]⟩:=by kernel_rfl
theorem Dy:ti Tryz.prog 86=some ⟨.struct [(0,3,false),(1,3,false)],2,16,.agg [.int .i64 0,.int .i64 0]⟩:=by kernel_rfl
theorem Cn:ti Tryz.prog 69=some ⟨.struct [(0,3,false),(1,4,false),(2,4,false),(3,67,false)],4,40,.agg [.int .i64 0,.bool false,.bool false,.slice .nil 1 []]⟩:=by kernel_rfl
theorem Gg:ti Tryz.prog 65=some ⟨.struct [(0,3,false),(1,9,false),(2,63,false),(3,50,false),(4,3,false),(5,4,false)],6,88,.agg [.int .i64 0,.str [],.slice .nil 1 [],.slice .nil 1 [],.int .i64 0,.bool false]⟩:=by kernel_rfl
theorem I7:ti Tryz.prog 88=some ⟨.struct [(0,3,false),(1,3,false),(2,3,false),(3,3,false),(4,3,false),(5,3,false)],6,48,.agg [.int .i64 0,.int .i64 0,.int .i64 0,.int .i64 0,.int .i64 0,.int .i64 0]⟩:=by kernel_rfl
theorem Ax:ti Tryz.prog 39=some ⟨.struct [(0,30,false),(1,31,false),(2,32,false),(3,33,false),(4,34,false),(5,35,false),(6,36,false),(7,37,false),(8,3,false),(9,3,false)],10,208,.agg [.slice .nil 1 [],.slice .nil 1 [],.slice .nil 1 [],.slice .nil 1 [],.slice .nil 1 [],.slice .nil 1 [],.slice .nil 1 [],.slice .nil 1 [],.int .i64 0,.int .i64 0]⟩:=by kernel_rfl
theorem qH:ti Tryz.prog 47=some ⟨.struct [(0,4,false),(1,29,false),(3,29,false),(5,3,false),(6,29,false)],8,64,.agg [.bool false,.int .u64 0,.int .u64 0,.int .u64 0,.int .u64 0,.int .i64 0,.int .u64 0,.int .u64 0]⟩:=by kernel_rfl
theorem D9:ti Tryz.prog 26=some ⟨.struct [(0,3,false),(1,23,false),(2,3,false),(3,3,false),(4,24,false)],5,72,.agg [.int .i64 0,.slice .nil 1 [],.int .i64 0,.int .i64 0,.slice .nil 1 []]⟩:=by kernel_rfl
theorem Cx:ti Tryz.prog 30=some ⟨.slice 78,1,24,.slice .nil 1 []⟩:=by kernel_rfl
theorem Ai:ti Tryz.prog 31=some ⟨.slice 80,1,24,.slice .nil 1 []⟩:=by kernel_rfl
theorem EH:ti Tryz.prog 115=some ⟨.slice 119,1,24,.slice .nil 1 []⟩:=by kernel_rfl
theorem CU:ti Tryz.prog 32=some ⟨.slice 117,1,24,.slice .nil 1 []⟩:=by kernel_rfl
theorem ER:ti Tryz.prog 105=some ⟨.slice 123,1,24,.slice .nil 1 []⟩:=by kernel_rfl
theorem Dm:ti Tryz.prog 104=some ⟨.slice 110,1,24,.slice .nil 1 []⟩:=by kernel_rfl
theorem zK:ti Tryz.prog 33=some ⟨.slice 107,1,24,.slice .nil 1 []⟩:=by kernel_rfl
theorem Ih:ti Tryz.prog 89=some ⟨.slice 102,1,24,.slice .nil 1 []⟩:=by kernel_rfl
theorem CW:ti Tryz.prog 34=some ⟨.slice 91,1,24,.slice .nil 1 []⟩:=by kernel_rfl
theorem Ea:ti Tryz.prog 35=some ⟨.slice 86,1,24,.slice .nil 1 []⟩:=by kernel_rfl
theorem DK:ti Tryz.prog 63=some ⟨.slice 69,1,24,.slice .nil 1 []⟩:=by kernel_rfl
theorem GZ:ti Tryz.prog 36=some ⟨.slice 65,1,24,.slice .nil 1 []⟩:=by kernel_rfl
theorem I4:ti Tryz.prog 37=some ⟨.slice 88,1,24,.slice .nil 1 []⟩:=by kernel_rfl
theorem Ej:ti Tryz.prog 23=some ⟨.slice 47,1,24,.slice .nil 1 []⟩:=by kernel_rfl
theorem D4:ti Tryz.prog 56=some ⟨.slice 26,1,24,.slice .nil 1 []⟩:=by kernel_rfl
theorem I1:ti Tryz.prog 24=some ⟨.slice 29,1,24,.slice .nil 1 []⟩:=by kernel_rfl
theorem I2:ti Tryz.prog 50=some ⟨.slice 3,1,24,.slice .nil 1 []⟩:=by kernel_rfl
theorem F6:ti Tryz.prog 67=some ⟨.slice 4,1,24,.slice .nil 1 []⟩:=by kernel_rfl
attribute [go_sem] I8 CA AA Ex DE F4 yS Ds zu HN CX Dy Cn Gg I7 Ax qH D9 Cx Ai EH CU ER Dm zK Ih CW Ea DK GZ I4 Ej D4 I1 I2 F6
def bF:List AV→AHeap→(AEnd→AHeap→Prop)→Prop
 |[.ptr id 0],H,K=>onC (H.get id) fun b v=>K (.ret (.bool (decide (cv b v 2=1)))) (H.set id (co b (v+1)))
 |_,_,_=>False
theorem kM:EntOk Tryz.prog 29 (Ent.effect bF):=by
 refine EntOk.effect fun args H K h=>?_
 unfold bF at h
 split at h
 rotate_left
 ·exact h.elim
 rename_i id
 obtain ⟨b,v,hg,hb,hv,hK⟩:=iF h
 refine ⟨_,_,hK,?_⟩
 clear hK
 refine ACalls.fW ax (tCq gI tNq) Tryz.func29 [.tmp 2] (nrq _) (T:=aq []) (h:=fun hcl hlt=>?_)
 clear hlt
 have hid:=glq hg
 have hcl2:(H.set id (co b (v+1))).Closed:=ai hcl dB
 have e2:(2:Int).toNat=2:=rfl
 simp only [go_sem,aX,hg,aU hb,cp,e2,Nat.add_zero,Nat.min_eq_left hv]
 have e:((((cv b v 2:Nat):Int))==1)=decide (cv b v 2=1):=by rw [Bool.eq_iff_iff];simp;omega
 refine ⟨⟨by decide,by decide⟩,?_⟩
 rw [e]
 exact Z8
theorem eX {id n:Nat} (h:id<n):((id=n)=False)∧((id=n+1)=False)∧((id=n+1+1)=False)∧((id=n+1+1+1)=False)∧((id=n+1+1+1+1)=False)∧((id=n+1+1+1+1+1)=False)∧((id=n+1+1+1+1+1+1)=False)∧((id=n+1+1+1+1+1+1+1)=False)∧((id=n+1+1+1+1+1+1+1+1)=False)∧((id=n+1+1+1+1+1+1+1+1+1)=False)∧((id=n+1+1+1+1+1+1+1+1+1+1)=False)∧((id=n+1+1+1+1+1+1+1+1+1+1+1)=False)∧((id=n+1+1+1+1+1+1+1+1+1+1+1+1)=False)∧((id=n+1+1+1+1+1+1+1+1+1+1+1+1+1)=False)∧((id=n+1+1+1+1+1+1+1+1+1+1+1+1+1+1)=False)∧((id=n+1+1+1+1+1+1+1+1+1+1+1+1+1+1+1)=False) :=
 ⟨eq_false (by omega),eq_false (by omega),eq_false (by omega),eq_false (by omega),eq_false (by omega),eq_false (by omega),eq_false (by omega),eq_false (by omega),eq_false (by omega),eq_false (by omega),eq_false (by omega),eq_false (by omega),eq_false (by omega),eq_false (by omega),eq_false (by omega),eq_false (by omega)⟩
theorem iK {H:AHeap} {id:Nat} (h:id<H.nx) (b:List UInt8) (v:Nat):(H.set id (co b v)).get id=some (co b v):=AHeap.get_set_same _ _ h
theorem io {b:List UInt8} {v:Nat}:([AV.int .i64 0,.int .i64 0,.int .i64 65535,.int .i64 3].getD (cv b v 4) .junk)=.int .i64 (lJ (cv b v 4)):=by
 have h:=c7 (b:=b) (v:=v) (n:=4) (by decide)
 unfold lJ
 generalize cv b v 4=c at *
 match c,h with
 |0,_=>rfl
 |1,_=>rfl
 |2,_=>rfl
 |3,_=>rfl
theorem aW {α:Type} {n sz:Nat} {f:α→AV} {l:List α} (h:∀ x,AV.lt n (f x)):AV.lt n (.slice .any sz (l.map f)):=Cj fun x hx=>by
 obtain ⟨y,_,rfl⟩:=List.mem_map.1 hx
 exact h y
theorem iE {n v:Nat} {l:List AV}:ltL n (vc v++l)=ltL n l:=by simp [vc,znu,znf]
theorem fE {n v:Nat}:ltL n (vc v)=True:=by simp [vc,znu,znv,znf]
theorem ot {n:Nat} {l:List Int}:AV.lt n (.slice .any 1 (inL l)):=aW fun x=>by simp only [znf]
theorem AK {n:Nat} {l:List Bool}:AV.lt n (.slice .any 1 (boL l)):=aW fun x=>by simp only [zng]
theorem xb {n:Nat} {l:List Nat}:AV.lt n (.slice .any 2 (l.map vv)):=aW fun x=>by simp only [vv,znr,znu,znv,znf,and_true]
theorem mv {n:Nat} (x:SField):AV.lt n (cB x):=by
 simp only [cB,znr,znu,znv,znf,znh,zng,iE,fE,List.append_assoc,yal,yak,true_and,and_true]
theorem qm {n:Nat} (x:SHeader):AV.lt n (jC x):=by
 simp only [jC,znr,znu,znv,znf,znh,zng,iE,fE,List.append_assoc,yal,yak,true_and,and_true]
 exact ot
theorem Ic {n:Nat} (x:SCase):AV.lt n (ov x):=by
 simp only [ov,znr,znu,znv,znf,znh,zng,iE,fE,List.append_assoc,yal,yak,true_and,and_true]
theorem fu {n:Nat} (x:SState):AV.lt n (dT x):=by
 simp only [dT,znr,znu,znv,znf,znh,zng,iE,fE,List.append_assoc,yal,yak,true_and,and_true]
 exact aW Ic
theorem IZ {n:Nat} (x:SPrim):AV.lt n (wS x):=by
 simp only [wS,znr,znu,znv,znf,znh,zng,iE,fE,List.append_assoc,yal,yak,true_and,and_true]
theorem lU {n:Nat} (x:SParam):AV.lt n (ct x):=by
 simp only [ct,znr,znu,znv,znf,znh,zng,iE,fE,List.append_assoc,yal,yak,true_and,and_true]
theorem ij {n:Nat} (x:SAction):AV.lt n (bj x):=by
 simp only [bj,znr,znu,znv,znf,znh,zng,iE,fE,List.append_assoc,yal,yak,true_and,and_true]
 exact ⟨aW lU,aW IZ⟩
theorem uj {n:Nat} (x:SKey):AV.lt n (bT x):=by
 simp only [bT,znr,znu,znv,znf,znh,zng,iE,fE,List.append_assoc,yal,yak,true_and,and_true]
theorem cR {n:Nat} (x:STable):AV.lt n (bc x):=by
 simp only [bc,znr,znu,znv,znf,znh,zng,iE,fE,List.append_assoc,yal,yak,true_and,and_true]
 exact ⟨aW uj,ot,xb⟩
theorem yR {n:Nat} (x:SStage):AV.lt n (ng x):=by
 simp only [ng,znr,znu,znv,znf,znh,zng,iE,fE,List.append_assoc,yal,yak,true_and,and_true]
theorem fU {n:Nat} (x:SGrant):AV.lt n (a9 x):=by
 simp only [a9,znr,znu,znv,znf,znh,zng,iE,fE,List.append_assoc,yal,yak,true_and,and_true]
 exact AK
theorem ji {n:Nat} (x:SRole):AV.lt n (bZ x):=by
 simp only [bZ,znr,znu,znv,znf,znh,zng,iE,fE,List.append_assoc,yal,yak,true_and,and_true]
 exact ⟨aW fU,ot⟩
theorem EM {n:Nat} (x:SRef):AV.lt n (uV x):=by
 simp only [uV,znr,znu,znv,znf,znh,zng,iE,fE,List.append_assoc,yal,yak,true_and,and_true]
theorem sw {n:Nat} (x:Sch):AV.lt n (Hl x):=by
 simp only [Hl,aY,znr,znu,znv,znf,true_and,and_true]
 exact ⟨aW mv,aW qm,aW fu,aW ij,aW cR,aW yR,aW ji,aW EM⟩
theorem FQ {b:List UInt8} {u n:Nat} (h:0<n):(0≤((cv b u n:Nat):Int)∧((cv b u n:Nat):Int)<(n:Int))=True:=eq_true ⟨by omega,by have:=c7 (b:=b) (v:=u) h;omega⟩
def eG (g:List UInt8→Nat→AV × Nat):List AV→AHeap→(AEnd→AHeap→Prop)→Prop
 |[.ptr id 0],H,K=>onC (H.get id) fun b v=>K (.ret (g b v).1) (H.set id (co b (g b v).2))
 |_,_,_=>False
def p8:=eG fun b v=>(.slice .any 5 ((bh b v).1.map dT),(bh b v).2)
theorem zD:EntOk Tryz.prog 25 (Ent.effect p8):=by
 unfold p8
 refine EntOk.effect fun args H K h=>?_
 unfold eG at h
 split at h
 rotate_left
 ·exact h.elim
 rename_i id
 obtain ⟨b,v,hg,hb,hv,hK⟩:=iF h
 refine ⟨_,_,hK,?_⟩
 clear hK
 refine ACalls.fW ax (tCq gI (tCq kM tNq)) Tryz.func25 [.tmp 2] (nrq _) (T:=aq [(5,[[],[],[],[],[],[3],[],[],[],[],[3],[],[3,10],[],[3,10,12],[1,3,10,12],[],[1,3,10,12]]),(10,[[16]])]) (h:=fun hcl hlt=>?_)
 clear hlt
 have hid:=glq hg
 have hne:=eX hid
 have hgc:=iK (b:=b) hid
 have hcl2:∀ w,(H.set id (co b w)).Closed:=fun w=>ai hcl dB
 have c4:∀ u,(0≤((cv b u 4:Nat):Int)∧((cv b u 4:Nat):Int)<((4:Nat):Int))=True:=fun u=>FQ (by decide)
 simp only [go_sem,aX,bF,hg,hgc,aU hb,bq,aL,bx,hne,io,c4,iNq]
 have w8:∀ u,IntKind.u64.wrap (IntKind.i64.wrap (8*((cv b u 2:Nat):Int)))=((8*cv b u 2:Nat):Int):=fun u=>by
  have:=c7 (b:=b) (v:=u) (n:=2) (by decide)
  rw [wrap_i64 (by omega) (by omega),cQ (by omega) (by omega)];omega
 have w1:∀ u,IntKind.i64.wrap (1+((cv b u 3:Nat):Int))=1+((cv b u 3:Nat):Int):=fun u=>by
  have:=c7 (b:=b) (v:=u) (n:=3) (by decide)
  rw [wrap_i64 (by omega) (by omega)]
 have hvs:∀ u,vc (8*cv b u 2)=[.int .u64 0,.int .u64 ((8*cv b u 2:Nat):Int)]:=fun u=>fX (by
  have:=c7 (b:=b) (v:=u) (n:=2) (by decide)
  omega)
 refine ⟨by decide,aj (fun h1=>?_) (fun h1=>?_)⟩
 ·have h1':cv b (v+1) 2=1:=of_decide_eq_true h1
  simp only [aV,aG,bhq,Nat.reduceMod,Nat.reduceDiv,aC,aB,aD,aR,aF,aQ,aN,aO,aP,yaq,yar,yao,yap,go_sem,aX,bF,hg,hgc,aU hb,bq,aL,bx,hne,io,c4,w8,w1,iNq]
  refine ⟨by decide,by decide,⟨by simp [ziq,zgq,zgr,zgs],by decide,by decide,aj (fun h2=>?_) (fun h2=>?_)⟩⟩
  ·have h2':cv b (v+5) 3=1:=by simp [cp] at h2;omega
   simp only [aV,aG,bhq,Nat.reduceMod,Nat.reduceDiv,aC,aB,aD,aR,aF,aQ,aN,aO,aP,yaq,yar,yao,yap,go_sem,aX,bF,hg,hgc,aU hb,bq,aL,bx,hne,io,c4,w8,w1,iNq]
   refine ⟨by decide,?_⟩
   refine im 2 (.slice .any 5 ((bh b v).1.map dT)) ?_ ?_
   ·exact Z9
   ·have e:(bh b v).2=cp v 7:=by unfold bh;simp only [h1',h2',if_true,if_false];rfl
    rw [e]
    simp only [go_sem,bhq,Nat.reduceMod,Nat.reduceDiv,aC,aB,aD,aR,aF,aQ,aN,aO,aP,yaq,yar,yao,yap]
    simp (disch:=first|exact Zd|omega) [↓zmo,beq,ybc,ybd,ybe,ae,wk,wk2,wk1,wkM,wkL,ah,ybf,hcl2]
    first|exact aW fu|exact ⟨by repeat first|exact .refl _|refine .push ?_ _,aW fu⟩
  ·have h2':¬ cv b (v+5) 3=1:=by simp [cp] at h2;omega
   simp only [aV,aG,bhq,Nat.reduceMod,Nat.reduceDiv,aC,aB,aD,aR,aF,aQ,aN,aO,aP,yaq,yar,yao,yap,go_sem,aX,bF,hg,hgc,aU hb,bq,aL,bx,hne,io,c4,w8,w1,iNq]
   refine im 2 (.slice .any 5 ((bh b v).1.map dT)) ?_ ?_
   ·exact Z9
   ·have e:(bh b v).2=cp v 6:=by unfold bh;simp only [h1',h2',if_true,if_false];rfl
    rw [e]
    simp only [go_sem,bhq,Nat.reduceMod,Nat.reduceDiv,aC,aB,aD,aR,aF,aQ,aN,aO,aP,yaq,yar,yao,yap]
    simp (disch:=first|exact Zd|omega) [↓zmo,beq,ybc,ybd,ybe,ae,wk,wk2,wk1,wkM,wkL,ah,ybf,hcl2]
    first|exact aW fu|exact ⟨by repeat first|exact .refl _|refine .push ?_ _,aW fu⟩
 ·have h1':¬ cv b (v+1) 2=1:=of_decide_eq_false h1
  simp only [aV,aG,bhq,Nat.reduceMod,Nat.reduceDiv,aC,aB,aD,aR,aF,aQ,aN,aO,aP,yaq,yar,yao,yap,go_sem,aX,bF,hg,hgc,aU hb,bq,aL,bx,hne,io,c4,w8,w1,iNq]
  refine ⟨by decide,by decide,aj (fun h2=>?_) (fun h2=>?_)⟩
  ·have h2':cv b (v+3) 3=1:=by simp [cp] at h2;omega
   simp only [aV,aG,bhq,Nat.reduceMod,Nat.reduceDiv,aC,aB,aD,aR,aF,aQ,aN,aO,aP,yaq,yar,yao,yap,go_sem,aX,bF,hg,hgc,aU hb,bq,aL,bx,hne,io,c4,w8,w1,iNq]
   refine ⟨by decide,?_⟩
   refine im 2 (.slice .any 5 ((bh b v).1.map dT)) ?_ ?_
   ·exact Z9
   ·have e:(bh b v).2=cp v 5:=by unfold bh;simp only [h1',h2',if_true,if_false];rfl
    rw [e]
    simp only [go_sem,bhq,Nat.reduceMod,Nat.reduceDiv,aC,aB,aD,aR,aF,aQ,aN,aO,aP,yaq,yar,yao,yap]
    simp (disch:=first|exact Zd|omega) [↓zmo,beq,ybc,ybd,ybe,ae,wk,wk2,wk1,wkM,wkL,ah,ybf,hcl2]
    first|exact aW fu|exact ⟨by repeat first|exact .refl _|refine .push ?_ _,aW fu⟩
  ·have h2':¬ cv b (v+3) 3=1:=by simp [cp] at h2;omega
   simp only [aV,aG,bhq,Nat.reduceMod,Nat.reduceDiv,aC,aB,aD,aR,aF,aQ,aN,aO,aP,yaq,yar,yao,yap,go_sem,aX,bF,hg,hgc,aU hb,bq,aL,bx,hne,io,c4,w8,w1,iNq]
   refine im 2 (.slice .any 5 ((bh b v).1.map dT)) ?_ ?_
   ·exact Z9
   ·have e:(bh b v).2=cp v 4:=by unfold bh;simp only [h1',h2',if_true,if_false];rfl
    rw [e]
    simp only [go_sem,bhq,Nat.reduceMod,Nat.reduceDiv,aC,aB,aD,aR,aF,aQ,aN,aO,aP,yaq,yar,yao,yap]
    simp (disch:=first|exact Zd|omega) [↓zmo,beq,ybc,ybd,ybe,ae,wk,wk2,wk1,wkM,wkL,ah,ybf,hcl2]
    first|exact aW fu|exact ⟨by repeat first|exact .refl _|refine .push ?_ _,aW fu⟩
theorem zz:ti Tryz.prog 124=some ⟨.slice 9,1,24,.slice .nil 1 []⟩:=by kernel_rfl
theorem ya:ti Tryz.prog 125=some ⟨.slice 124,1,24,.slice .nil 1 []⟩:=by kernel_rfl
attribute [go_sem] zz ya
def JnT {α:Type} (F:α→Fr) (G:α→AHeap) (I:α→Prop) (K:Fr→AHeap→Prop):Prop:=∀ x,I x→K (F x) (G x)
theorem gM {α:Type} (F:α→Fr) (G:α→AHeap) (I:α→Prop) {K:Fr→AHeap→Prop} {C:Prop} (h:JnT F G I K→C) (hJ:JnT F G I K):C:=h hJ
theorem dN {α:Type} {F:α→Fr} {G:α→AHeap} {I:α→Prop} {n0:Nat} {K:Fr→AHeap→Prop} {fr:Fr} {H:AHeap} (J:JnT F G I K) (x:α) (hx:I x) (he:enterW n0 fr H (F x) (G x)):gE n0 K fr H:=ik _ _ he (J x hx)
theorem Ac {F:Nat × AHeap→Fr} {I:Nat × AHeap→Prop} {n0 s id off sz len:Nat} {K:Fr→AHeap→Prop} {fr:Fr} {H:AHeap} (J:JnT F (fun x=>x.2) (fun x=>x.2.Closed∧I x) K) (hs:Fr.get fr s=.ms id off sz len) (hc:H.Closed) (hx:I (id,H)) (hn:n0≤H.nx) (hl:ltF H.nx (F (id,H))) (hw:aK H H (F (id,H)) fr):gE n0 K fr H:=ik _ _ ⟨hn,lRq _,hc,hl,hw⟩ (J _ ⟨hc,hx⟩)
theorem vP {n0 s id off sz len:Nat} {K:Fr→AHeap→Prop} {fr:Fr} {H:AHeap} {cs:List AV} (cs':List AV) (hs:Fr.get fr s=.ms id off sz len) (hc:ay H id=some cs) (h:lQ cs cs') (hk:K fr (H.set id (.cells cs'))):gE n0 K fr H:=cY id cs' hc h hk
structure But (id:Nat) (H Hc:AHeap):Prop where
 nx:H.nx≤Hc.nx
 get:∀ j x,j≠id→H.get j=some x→Hc.get j=some x
theorem But.push {id:Nat} {H Hc:AHeap} (h:But id H Hc) (o:AObj):But id H (Hc.push o):=⟨by rw [zle];exact Nat.le_succ_of_le h.nx,fun j x hj hx=>by
 have:=h.get j x hj hx
 rw [gPq _ _ (glq this)];exact this⟩
theorem But.set {id i:Nat} {H Hc:AHeap} (h:But id H Hc) (o:AObj) (hi:i=id∨H.nx≤i):But id H (Hc.set i o):=⟨by rw [zlf];exact h.nx,fun j x hj hx=>by
 have hlt:=glq hx
 rw [AHeap.get_set_ne _ _ (by rcases hi with rfl|hi<;>omega)]
 exact h.get j x hj hx⟩
theorem But.del {id i:Nat} {H Hc:AHeap} (h:But id H Hc) (hi:H.nx≤i):But id H (Hc.del i):=⟨by rw [fy];exact h.nx,fun j x hj hx=>by
 have hlt:=glq hx
 rw [gH,if_neg (by omega)]
 exact h.get j x hj hx⟩
theorem But.self {id:Nat} {H:AHeap}:But id H H:=⟨nrq _,fun _ _ _ h=>h⟩
theorem But.le {id:Nat} {H Hc:AHeap} {o:AObj} (h:But id H Hc) (hg:Hc.get id=some o):(H.set id o).Le Hc:=IG h.get hg h.nx
theorem vp {H:AHeap} {i j:Nat} {o o':AObj} (h:i≠j):(H.set i o).set j o'=(H.set j o').set i o:=by
 simp only [AHeap.set,AHeap.mk.injEq,true_and]
 funext k
 by_cases h1:k=i
 ·subst h1;simp [h]
 ·simp [h1]
theorem GJ {H:AHeap} {i:Nat} {o o':AObj}:(H.set i o).set i o'=H.set i o':=by
 simp only [AHeap.set,AHeap.mk.injEq,true_and]
 funext k
 by_cases h1:k=i<;>simp [h1]
def Eb (b:List UInt8) (v k:Nat):List STable:=(bD b v).take k++((bD b v).drop k).map fun t=>{ t with restr:=[] }
def uI (b:List UInt8) (v k:Nat):List AV:=(Eb b v k).flatMap fun t=>(bc t).cells
theorem iJ {α:Type} {n:Nat} {f:α→AV} {l:List α} (h:∀ x,AV.lt n (f x)):ltL n (l.flatMap fun x=>(f x).cells):=ltL_iff.2 fun j hj=>by
 obtain ⟨x,_,hx⟩:=List.mem_flatMap.1 (gMq hj)
 obtain ⟨k,hk,e⟩:=List.mem_iff_getElem.1 hx
 rw [← e];exact AV.lt_cells (h x) k hk
theorem jT {α:Type} {sz:Nat} (h1:sz≠1) (f:α→List AV) (hf:∀ x,(f x).length=sz):∀ l:List α,bz sz l.length (l.flatMap f)=l.map fun x=>.agg (f x)
 |[]=>rfl
 |x::l=>by
  rw [yaz,List.flatMap_cons,bz,if_neg h1,yae,show (f x++l.flatMap f).drop sz=l.flatMap f by rw [← hf x,List.drop_left],jT h1 f hf l]
  congr 2
  apply List.ext_getElem
  ·simp [hf]
  ·intro j a1 a2
   simp only [List.getElem_map,List.getElem_range]
   rw [gEq,List.getElem?_append_left a2,gQq a2];rfl
def lE:AV:=.slice .any 1 [.slice .any 1 (gText0.map .str),.slice .any 1 (gText1.map .str),.slice .any 1 (gText2.map .str),.slice .any 1 (gText3.map .str)]
def qM:=eG fun b v=>(.slice .any 8 ((bD b v).map bc),v+12)
theorem zX:EntOk Tryz.prog 27 (Ent.effect qM):=by
 unfold qM
 refine EntOk.effect fun args H K h=>?_
 unfold eG at h
 split at h
 rotate_left
 ·exact h.elim
 rename_i id
 obtain ⟨b,v,hg,hb,hv,hK⟩:=iF h
 refine ⟨_,_,hK,?_⟩
 clear hK
 refine ACalls.fW ax (tCq gI (tCq kM tNq)) Tryz.func27 [.tmp 2] (nrq _) (T:=aq [(16,[[],[],[],[],[],[],[],[],[],[7],[],[],[5,7,9]]),(11,[[14]]),(13,[[1,1,1]])]) (h:=fun hcl hlt=>?_)
 clear hlt
 have hid:=glq hg
 have hne:=eX hid
 have hne2:=eX (show id<H.nx+1+1+1+1+1+1+1+1+1+1+1+1+1+1+1+1 by omega)
 have hgc:=iK (b:=b) hid
 have hcl2:∀ w,(H.set id (co b w)).Closed:=fun w=>ai hcl dB
 have c3:∀ u,(0≤((cv b u 3:Nat):Int)∧((cv b u 3:Nat):Int)<((3:Nat):Int))=True:=fun u=>FQ (by decide)
 have w1:∀ (u n:Nat) (k:Int),0<n→n≤100→0≤k→k≤100→IntKind.i64.wrap (k+((cv b u n:Nat):Int))=k+((cv b u n:Nat):Int):=fun u n k h1 h2 h3 h4=>by
  have:=c7 (b:=b) (v:=u) (n:=n) h1
  rw [wrap_i64 (by omega) (by omega)]
 have e2:(2:Int).toNat=2:=rfl
 have e5:(5:Int).toNat=5:=rfl
 have e6:(6:Int).toNat=6:=rfl
 have e3:(3:Int).toNat=3:=rfl
 have a12:∀ u,IntKind.i64.wrap (1+((cv b u 2:Nat):Int))=1+((cv b u 2:Nat):Int):=fun u=>w1 u 2 1 (by decide) (by decide) (by decide) (by decide)
 have a25:∀ u,IntKind.i64.wrap (2+((cv b u 5:Nat):Int))=2+((cv b u 5:Nat):Int):=fun u=>w1 u 5 2 (by decide) (by decide) (by decide) (by decide)
 have a36:∀ u,IntKind.i64.wrap (3+((cv b u 6:Nat):Int))=3+((cv b u 6:Nat):Int):=fun u=>w1 u 6 3 (by decide) (by decide) (by decide) (by decide)
 have a46:∀ u,IntKind.i64.wrap (4+((cv b u 6:Nat):Int))=4+((cv b u 6:Nat):Int):=fun u=>w1 u 6 4 (by decide) (by decide) (by decide) (by decide)
 have a35:∀ u,IntKind.i64.wrap (3+((cv b u 5:Nat):Int))=3+((cv b u 5:Nat):Int):=fun u=>w1 u 5 3 (by decide) (by decide) (by decide) (by decide)
 simp only [go_sem,aX,bF,hg,hgc,aU hb,bq,aL,bx,hne,e2,e3,e5,e6,a12,a25,a36,a46,a35]
 apply gM (α:=Nat × AHeap) (fun x=>[(0,.ptr id 0),(7,.ms x.1 0 8 4),(8,lE)]) (fun x=>x.2) (fun x=>x.2.Closed∧H.nx≤x.1∧x.1<x.2.nx∧But id H x.2∧x.2.get id=some (co b (cp v 8))∧x.2.get x.1=some (.cells (uI b v 0)))
 ·intro J
  (repeat with_reducible refine Yq ?_)
  refine aj (fun h1=>?_) (fun h1=>?_)
  all_goals
   simp only [aV,aG,bhq,Nat.reduceMod,Nat.reduceDiv,aC,aB,aD,aR,aF,aQ,aN,aO,aP,yaq,yar,yao,yap,go_sem,aX,bF,hg,hgc,aU hb,bq,aL,bx,hne,e2,e3,e5,e6,a12,a25,a36,a46,a35]
   (repeat with_reducible refine Yq ?_)
   refine aj (fun h2=>?_) (fun h2=>?_)
  all_goals
   simp only [aV,aG,bhq,Nat.reduceMod,Nat.reduceDiv,aC,aB,aD,aR,aF,aQ,aN,aO,aP,yaq,yar,yao,yap,go_sem,aX,bF,hg,hgc,aU hb,bq,aL,bx,hne,e2,e3,e5,e6,a12,a25,a36,a46,a35]
   (repeat with_reducible refine Yq ?_)
   refine aj (fun h3=>?_) (fun h3=>?_)
  all_goals
   simp only [aV,aG,bhq,Nat.reduceMod,Nat.reduceDiv,aC,aB,aD,aR,aF,aQ,aN,aO,aP,yaq,yar,yao,yap,go_sem,aX,bF,hg,hgc,aU hb,bq,aL,bx,hne,e2,e3,e5,e6,a12,a25,a36,a46,a35]
   (repeat with_reducible refine Yq ?_)
   refine vP (s:=7) (uI b v 0) rfl (by simp only [go_sem];rfl) ?_ ?_
   ·first|replace h1:=of_decide_eq_true h1|replace h1:=of_decide_eq_false h1
    first|replace h2:=of_decide_eq_true h2|replace h2:=of_decide_eq_false h2
    first|replace h3:=of_decide_eq_true h3|replace h3:=of_decide_eq_false h3
    simp only [cp] at h1 h2 h3
    simp [uI,Eb,bD,gU,jd,dk,dm,bc,bT,inL,vv,h1,h2,h3,cp,AV.cells,gW,bM,bN,cd,dv,ce,fC,ge,fp,wkM]
   refine im 8 lE ?_ ?_
   ·simp [Fr.get,lE,gText0,gText1,gText2,gText3,AV.cells,bM,bN,cd,dv,ce,ge,wkM]
   refine Ac (s:=7) J rfl ?_ ?_ (by (try simp only [zkv,zkq,fY,zle,zlf]);omega) ?_ ?_
   ·repeat' (first|exact hcl2 _|refine ag ?_|refine ai ?_ ?_|refine aa ?_ ?_)
    all_goals first|exact iJ fun _=>cR _|(simp [aI,znu,znv,znf,znh,zng,znr,AV.cells,yal,yak,zle,zlf];try omega)
   ·dsimp only
    refine ⟨by (try simp only [zle,zlf]);omega,by (try simp only [zle,zlf]);omega,?_,?_,?_⟩
    ·repeat (first|exact But.self|refine But.push ?_ _|refine But.set ?_ _ (by first|exact .inl rfl|exact .inr (by (try simp only [zle,zlf]);omega)))
    ·simp only [go_sem,hne,hne2,hgc,cp]
    ·simp only [go_sem]
   ·simp [ltF,znn,znp,lE,gText0,gText1,gText2,gText3,znh,aI,znu,znv,zle,zlf]
    try omega
   ·simp [aK,wk2,wk1,wkM,Fr.get,lE]
 ·rintro ⟨i,Hc⟩ ⟨q3,q1,q2,q4,q5,q6⟩
  dsimp only at q1 q2 q3 q4 q5 q6 ⊢
  have hii:i≠id:=by omega
  have gtx:∀ u x y z,([AV.str x,.str y,.str z]:List AV).getD (cv b u 3) .junk=.str ([x,y,z].getD (cv b u 3) []):=fun u x y z=>by
   have:=c7 (b:=b) (v:=u) (n:=3) (by decide)
   rcases (by omega:cv b u 3=0∨cv b u 3=1∨cv b u 3=2) with e|e|e<;>rw [e]<;>rfl
  have hic:id<Hc.nx:=glq q5
  have hci:∀ C w,ay ((Hc.set i (.cells C)).set id (co b w)) i=some C:=fun C w=>au (by
   rw [AHeap.get_set_ne _ _ hii,AHeap.get_set_same _ _ q2])
  have hgd:∀ C w,((Hc.set i (.cells C)).set id (co b w)).get id=some (co b w):=fun C w=>AHeap.get_set_same _ _ (by rw [zlf];exact hic)
  have hsi:∀ C C' w,((Hc.set i (.cells C)).set id (co b w)).set i (.cells C')=(Hc.set i (.cells C')).set id (co b w):=fun C C' w=>by
   rw [← vp hii,GJ,vp hii]
  have hsd:∀ C w w',((Hc.set i (.cells C)).set id (co b w)).set id (co b w')=(Hc.set i (.cells C)).set id (co b w'):=fun C w w'=>Ch
  have hclo:∀ k w,((Hc.set i (.cells (uI b v k))).set id (co b w)).Closed:=fun k w=>ai (ai q3 (iJ fun _=>cR _)) dB
  simp only [bhq,Nat.reduceMod,Nat.reduceDiv,aC,aB,aD,aR,aF,aQ,aN,aO,aP,yaq,yar,yao,yap,go_sem]
  refine aE (A:=Nat) (fun k=>[(0,.ptr id 0),(7,.ms i 0 8 4),(8,lE),(80,.int .i64 4),(81,.int .i64 (k:Int))]) (fun k=>(Hc.set i (.cells (uI b v k))).set id (co b (cp v (8+k)))) (fun k=>k≤4) (fun k=>4 - k) 0 (by omega) ?_ fun k hk=>?_
  ·refine ⟨by simp only [zlf,zkq,zkv];have:=q4.nx;omega,?_,hclo _ _,?_,?_⟩
   ·exact ((lx (by rw [AHeap.get_set_ne _ _ (fun e=>hii e.symm)];exact q5)).trans (lx q6))
   ·simp [ltF,znn,znp,znf,lE,gText0,gText1,gText2,gText3,znh,aI,znu,znv,zlf]
    omega
   ·simp [aK,wk2,wk1,wkM,Fr.get,lE]
  simp only [go_sem]
  refine aj (fun hc=>?_) (fun hc=>?_)
  ·have hk4:k<4:=by simp at hc;omega
   have c3':∀ u,(0≤((cv b u 3:Nat):Int)∧((cv b u 3:Nat):Int)<((3:Nat):Int)):=fun u=>of_eq_true (c3 u)
   have e4:IntKind.i64.wrap ((k:Int)+1)=((k+1:Nat):Int):=by rw [wrap_i64]<;>omega
   rcases (by omega:k=0∨k=1∨k=2∨k=3) with rfl|rfl|rfl|rfl
   ·simp only [go_sem,lE,gText0,gText1,gText2,gText3,aX,hgd,hci,hsi,hsd,aU hb,bq,aL,bx,e3,gtx,c3',e4,show IntKind.i64.wrap 1=1 from by decide,iNq,zok,uI,Eb,bD,List.flatMap_cons,List.flatMap_nil,bc,AV.cells,yal,yak]
    refine ⟨by decide,by decide,by decide,1,by decide,by decide,by simp only [zlf,zkq,zkv];have:=q4.nx;omega,lRq _,hclo 1 _,?_,?_⟩
    ·simp [ltF,znn,znp,znf,znh,aI,znu,znv,zlf]
     omega
    ·simp [aK,wk2,wk1,wkM,Fr.get]
   ·simp only [go_sem,lE,gText0,gText1,gText2,gText3,aX,hgd,hci,hsi,hsd,aU hb,bq,aL,bx,e3,gtx,c3',e4,show IntKind.i64.wrap 1=1 from by decide,iNq,zok,uI,Eb,bD,List.flatMap_cons,List.flatMap_nil,bc,AV.cells,yal,yak]
    refine ⟨by decide,by decide,by decide,2,by decide,by decide,by simp only [zlf,zkq,zkv];have:=q4.nx;omega,lRq _,hclo 2 _,?_,?_⟩
    ·simp [ltF,znn,znp,znf,znh,aI,znu,znv,zlf]
     omega
    ·simp [aK,wk2,wk1,wkM,Fr.get]
   ·simp only [go_sem,lE,gText0,gText1,gText2,gText3,aX,hgd,hci,hsi,hsd,aU hb,bq,aL,bx,e3,gtx,c3',e4,show IntKind.i64.wrap 1=1 from by decide,iNq,zok,uI,Eb,bD,List.flatMap_cons,List.flatMap_nil,bc,AV.cells,yal,yak]
    refine ⟨by decide,by decide,by decide,3,by decide,by decide,by simp only [zlf,zkq,zkv];have:=q4.nx;omega,lRq _,hclo 3 _,?_,?_⟩
    ·simp [ltF,znn,znp,znf,znh,aI,znu,znv,zlf]
     omega
    ·simp [aK,wk2,wk1,wkM,Fr.get]
   ·simp only [go_sem,lE,gText0,gText1,gText2,gText3,aX,hgd,hci,hsi,hsd,aU hb,bq,aL,bx,e3,gtx,c3',e4,show IntKind.i64.wrap 1=1 from by decide,iNq,zok,uI,Eb,bD,List.flatMap_cons,List.flatMap_nil,bc,AV.cells,yal,yak]
    refine ⟨by decide,by decide,by decide,4,by decide,by decide,by simp only [zlf,zkq,zkv];have:=q4.nx;omega,lRq _,hclo 4 _,?_,?_⟩
    ·simp [ltF,znn,znp,znf,znh,aI,znu,znv,zlf]
     omega
    ·simp [aK,wk2,wk1,wkM,Fr.get]
  ·have hk4:k=4:=by simp at hc;omega
   subst hk4
   simp only [go_sem]
   have hr:bz 8 4 (uI b v 4)=(bD b v).map bc:=jT (by decide) (fun t=>(bc t).cells) (fun _=>rfl) (bD b v)
   refine ⟨?_,?_,hcl2 _,aW cR⟩
   ·simp only [wk,wk2,wk1,hci,yap,hr,true_or,true_and]
    rw [zmv (by rw [zlf];exact q1)]
   ·exact ((q4.set _ (.inr q1)).set _ (.inl rfl)).le (hgd _ _)
def oq:=eG fun b v=>(.slice .any 5 ((cD b v).map bj),v+4)
def D2 (b:List UInt8) (v:Nat) (r1 r2:Bool):List AV:=((cD b v).map fun a=>(⟨a.id,a.name,a.params,a.body,if a.id=3∧r1=true then [112,111,114,116,32,33,61,32,48] else if a.id=5∧r2=true then [120,32,60,32,121,32,124,124,32,120,32,61,61,32,49,53] else []⟩:SAction)).flatMap fun a=>(bj a).cells
theorem Gy {b:List UInt8} {v:Nat}:D2 b v (decide (cv b (v+2) 2=1)) (decide (cv b (v+3) 2=1))=(cD b v).flatMap fun a=>(bj a).cells:=by
 by_cases h1:cv b (v+2) 2=1<;>by_cases h2:cv b (v+3) 2=1<;>simp [D2,cD,bj,AV.cells,h1,h2]
theorem xN:EntOk Tryz.prog 26 (Ent.effect oq):=by
 unfold oq
 refine EntOk.effect fun args H K h=>?_
 unfold eG at h
 split at h
 rotate_left
 ·exact h.elim
 rename_i id
 obtain ⟨b,v,hg,hb,hv,hK⟩:=iF h
 refine ⟨_,_,hK,?_⟩
 clear hK
 dsimp only
 generalize hres:AV.slice .any 5 ((cD b v).map bj)=res
 refine ACalls.fW ax (tCq gI (tCq kM tNq)) Tryz.func26 [.tmp 2] (nrq _) (T:=aq [(2,[[],[],[],[],[],[],[],[],[],[],[],[],[],[],[],[],[],[],[],[],[],[],[],[],[],[],[],[],[],[],[],[],[],[29],[29,33],[],[],[],[29,33],[],[6,12,22,29,33]]),(802,[[100002],[100005],[100008],[100011],[100016],[100020],[100026],[100044]]),(1202,[[40]]),(3,[[1]])]) (h:=fun hcl hlt=>?_)
 clear hlt
 have hid:=glq hg
 have hne:=eX hid
 have hne2:=eX (show id<H.nx+1+1+1+1+1+1+1+1+1+1+1+1+1+1+1+1 by omega)
 have hgc:=iK (b:=b) hid
 have hcl2:∀ w,(H.set id (co b w)).Closed:=fun w=>ai hcl dB
 have e2:(2:Int).toNat=2:=rfl
 have e256:(256:Int).toNat=256:=rfl
 have a22:∀ u,IntKind.i64.wrap (2+((cv b u 2:Nat):Int))=2+((cv b u 2:Nat):Int):=fun u=>by
  have:=c7 (b:=b) (v:=u) (n:=2) (by decide)
  rw [wrap_i64 (by omega) (by omega)]
 have u256:∀ u,IntKind.u64.wrap ((cv b u 256:Nat):Int)=((cv b u 256:Nat):Int):=fun u=>by
  have:=c7 (b:=b) (v:=u) (n:=256) (by decide)
  rw [cQ (by omega) (by omega)]
 simp only [go_sem,aX,bF,hg,hgc,aU hb,bq,aL,bx,hne,hne2,e2,e256,a22,u256]
 (repeat with_reducible refine Yq ?_)
 simp only [aV,aG,bhq,Nat.reduceMod,Nat.reduceDiv,aC,aB,aD,aR,aF,aQ,aN,aO,aP,yaq,yar,yao,yap,go_sem,aX,bF,hg,hgc,aU hb,bq,aL,bx,hne,hne2,e2,e256,a22,u256]
 refine vP (s:=4) (D2 b v false false) rfl (by simp only [go_sem];rfl) ?_ ?_
 ·simp [D2,cD,bj,ct,wS,vc,cp,AV.cells,gW,bM,bN,cd,dv,ce,fC,ge,fp,wkM]
  have:=c7 (b:=b) (v:=v+1) (n:=256) (by decide)
  omega
 simp only [aV,aG,bhq,Nat.reduceMod,Nat.reduceDiv,aC,aB,aD,aR,aF,aQ,aN,aO,aP,yaq,yar,yao,yap,go_sem,aX,bF,hg,hgc,aU hb,bq,aL,bx,hne,hne2,e2,e256,a22,u256]
 refine aj (fun h1=>?_) (fun h1=>?_)
 all_goals
  simp only [aV,aG,bhq,Nat.reduceMod,Nat.reduceDiv,aC,aB,aD,aR,aF,aQ,aN,aO,aP,yaq,yar,yao,yap,go_sem,aX,bF,hg,hgc,aU hb,bq,aL,bx,hne,hne2,e2,e256,a22,u256,D2,cD,List.flatMap_cons,List.flatMap_nil,bj,AV.cells,yal,yak]
  (repeat with_reducible refine Yq ?_)
  refine aj (fun h2=>?_) (fun h2=>?_)
 all_goals
  try simp only [aV,aG,bhq,Nat.reduceMod,Nat.reduceDiv,aC,aB,aD,aR,aF,aQ,aN,aO,aP,yaq,yar,yao,yap,go_sem,aX,bF,hg,hgc,aU hb,bq,aL,bx,hne,hne2,e2,e256,a22,u256,D2,cD,List.flatMap_cons,List.flatMap_nil,bj,AV.cells,yal,yak]
  (repeat with_reducible refine Yq ?_)
  have hA:=Gy (b:=b) (v:=v)
  rw [show decide (cv b (v+2) 2=1)=_ from h1,show decide (cv b (v+3) 2=1)=_ from h2] at hA
  have hr:=jT (sz:=5) (by decide) (fun t=>(bj t).cells) (fun _=>rfl) (cD b v)
  rw [← hA] at hr
  subst hres
  refine ⟨?_,?_,hcl2 _,aW ij⟩
  ·simp only [wk,wk2,wk1,go_sem,yap,true_or,true_and]
   refine ⟨?_,?_⟩
   ·exact hr.symm
   ·rw [zmv (by (try simp only [zlf]);omega)]
  ·refine But.le (id:=id) ?_ ?_
   ·repeat (first|exact But.self|refine But.push ?_ _|refine But.set ?_ _ (by first|exact .inl rfl|exact .inr (by (try simp only [zle,zlf]);omega)))
   ·simp only [go_sem,hne,hne2,hgc,cp]
def bfN (n:Nat) (f:Nat→Bool):List AV:=(List.range n).map fun i=>.bool (f i)
theorem B7 {n:Nat} {f:Nat→Bool}:(bfN n f).length=n:=by simp [bfN]
theorem BE {n:Nat} {f g:Nat→Bool} {i:Nat} {b:Bool} (h:∀ j,j<n→g j=if j=i then b else f j):(bfN n f).set i (.bool b)=bfN n g:=by
 apply List.ext_getElem
 ·simp [bfN]
 ·intro j h1 h2
  have hj:j<n:=by simpa [bfN] using h2
  rw [List.getElem_set]
  simp only [bfN,List.getElem_map,List.getElem_range,h j hj]
  by_cases e:i=j
  ·subst e;simp
  ·rw [if_neg e,if_neg (fun x=>e x.symm)]
theorem IC {n:Nat}:(List.replicate n [AV.bool false]).flatten=bfN n fun _=>false:=by
 induction n with
 |zero=>rfl
 |succ n ih =>
  rw [List.replicate_succ,List.flatten_cons,ih]
  apply List.ext_getElem
  ·simp [bfN]
  ·intro j h1 h2
   cases j<;>simp [bfN]
theorem BF {n:Nat} {f:Nat→Bool}:bfN n f=boL ((List.range n).map f):=by simp [bfN,boL]
theorem BU {m n:Nat} {f:Nat→Bool}:ltL m (bfN n f)=True:=eq_true (ltL_iff.2 fun j hj=>by
 simp only [bfN,List.getElem_map]
 rw [AV.lt]<;>simp)
theorem oK:∀ (l:List Bool),bz 1 l.length (boL l)=boL l
 |[]=>rfl
 |x::l=>by
  rw [yaz,bz,if_pos rfl]
  have:=oK l
  simp only [boL,yae,yao,yap,yau,j6] at this ⊢
  rw [this]
theorem jW {α:Type} {n:Nat} {f:α→AV} {a c:List AV} {l:List α} (h:a++c=l.map f) (hf:∀ x,AV.lt n (f x)):ltL n a=True:=eq_true (ltL_iff.2 fun j hj=>by
 have:a[j]∈l.map f:=by rw [← h];exact List.mem_append_left _ (gMq hj)
 obtain ⟨x,_,e⟩:=List.mem_map.1 this
 rw [← e];exact hf x)
def rO (i j:Nat) (g:List AV):List AV:=[.int .i64 1,.str [97,108,108],.slice (.own i) 4 g,.slice (.own j) 1 [.int .i64 1,.int .i64 2,.int .i64 3,.int .i64 4,.int .i64 5,.int .i64 6],.int .i64 40,.bool true]
def lG (b:List UInt8) (v i j:Nat) (g:List AV):List AV:=[.int .i64 2,.str [115,111,109,101],.slice (.own i) 4 g,.slice (.own j) 1 [.int .i64 1,.int .i64 2,.int .i64 (3+ci b (cp v 0) 3)],.int .i64 (1+ci b (cp v 1) 6),.bool false]
def rQ (b:List UInt8) (v i j:Nat) (g:List AV):List AV:=[.int .i64 7,.str [102,101,119],.slice (.own i) 4 g,.slice (.own j) 1 [.int .i64 (1+ci b (cp v 2) 6)],.int .i64 (ci b (cp v 3) 4),.bool false]
def gh (H:AHeap) (id:Nat) (b:List UInt8) (v w:Nat) (a1 a2 a3:List AV):AHeap :=
 (((((((((((H.set id (co b (cp w 0))).push (.buf 6 0)).push (.buf 1 6)).push (.buf 4 a1.length)).push (.cells (rO (H.nx+1+1) (H.nx+1) a1))).push (.buf 1 3)).push (.buf 4 a2.length)).push (.cells (lG b v (H.nx+1+1+1+1+1) (H.nx+1+1+1+1) a2))).push (.buf 1 1)).push (.buf 4 a3.length)).push (.cells (rQ b v (H.nx+1+1+1+1+1+1+1+1) (H.nx+1+1+1+1+1+1+1) a3)))
structure RolI (b:List UInt8) (ts:List STable) (R:(List SGrant × List SGrant × List SGrant) × Nat) (k w:Nat) (a1 a2 a3:List AV):Prop where
 le:k≤ts.length
 l1:a1.length≤k
 l2:a2.length≤k
 l3:a3.length≤k
 e1:a1++(cq b (ts.drop k) w).1.1.map a9=R.1.1.map a9
 e2:a2++(cq b (ts.drop k) w).1.2.1.map a9=R.1.2.1.map a9
 e3:a3++(cq b (ts.drop k) w).1.2.2.map a9=R.1.2.2.map a9
 e4:(cq b (ts.drop k) w).2=R.2
theorem gz {H:AHeap} {id:Nat} {b:List UInt8} {ts:List STable} {R:(List SGrant × List SGrant × List SGrant) × Nat} {v k w:Nat} {a1 a2 a3:List AV} (hcl:H.Closed) (h:RolI b ts R k w a1 a2 a3) (w':Nat):(gh H id b v w' a1 a2 a3).Closed:=by
 have q1:=fun n=>jW (n:=n) h.e1 fU
 have q2:=fun n=>jW (n:=n) h.e2 fU
 have q3:=fun n=>jW (n:=n) h.e3 fU
 unfold gh
 repeat' (first|exact ai hcl dB|refine ag ?_|refine aa ?_ ?_)
 all_goals simp [rO,lG,rQ,aI,znu,znv,znf,znh,zng,zle,zlf,q1,q2,q3]
 all_goals omega
def oB (g:List UInt8→Nat→AV × Nat):Prop:=∀ b v,(g b (min v b.length)).1=(g b v).1∧∃ c,(g b (min v b.length)).2=min v b.length+c∧(g b v).2=v+c
def onS (o:Option AObj) (g:List UInt8→Nat→AV × Nat) (K:AV→AObj→Prop):Prop:=onC o fun b v=>K (g b v).1 (co b (g b v).2)
@[congr] theorem Lw {o o':Option AObj} {g:List UInt8→Nat→AV × Nat} {K:AV→AObj→Prop} (h:o=o'):onS o g K=onS o' g K:=by rw [h]
theorem cr {b:List UInt8} {v:Nat} {g:List UInt8→Nat→AV × Nat} {K:AV→AObj→Prop} (hb:b.length≤1000000) (hg:oB g):onS (some (co b v)) g K=K (g b v).1 (co b (g b v).2):=by
 unfold onS
 rw [aU hb]
 obtain ⟨h1,c,h2,h3⟩:=hg b v
 rw [h1,h2,h3,aL]
theorem qg {g:List UInt8→Nat→AV × Nat} {id:Nat} {H:AHeap} {K:AEnd→AHeap→Prop}:eG g [.ptr id 0] H K=onS (H.get id) g fun x o=>K (.ret x) (H.set id o):=(rfl)
def mr:List UInt8→Nat→AV × Nat:=fun b v=>(.slice .any 5 ((bh b v).1.map dT),(bh b v).2)
def kH:List UInt8→Nat→AV × Nat:=fun b v=>(.slice .any 5 ((cD b v).map bj),v+4)
def mu:List UInt8→Nat→AV × Nat:=fun b v=>(.slice .any 8 ((bD b v).map bc),v+12)
theorem jm:oB mr:=fun b v=>by
 have e:bh b (min v b.length)=((bh b v).1,(bh b v).2 - v+min v b.length):=by
  unfold bh
  simp only [cI,bq]
  repeat' split
  all_goals (refine Prod.ext rfl ?_;dsimp only;omega)
 have h:∃ c,(bh b v).2=v+c:=by
  unfold bh
  repeat' split
  all_goals exact ⟨_,rfl⟩
 obtain ⟨c,hc⟩:=h
 unfold mr
 dsimp only
 rw [e]
 exact ⟨rfl,c,by dsimp only;omega,hc⟩
theorem ig:oB kH:=fun b v=>by
 have e:cD b (min v b.length)=cD b v:=by unfold cD ci;simp only [cI,bq]
 unfold kH
 dsimp only
 rw [e]
 exact ⟨rfl,4,rfl,rfl⟩
theorem js:oB mu:=fun b v=>by
 have e:bD b (min v b.length)=bD b v:=by unfold bD gU jd dk dm ci;simp only [cI,bq]
 unfold mu
 dsimp only
 rw [e]
 exact ⟨rfl,12,rfl,rfl⟩
theorem ni {b:List UInt8} {v k n:Nat}:iR b (min v b.length+k) n=iR b (v+k) n:=by
 unfold iR
 refine List.map_congr_left fun i _=>?_
 rw [Nat.add_assoc,Nat.add_assoc]
 unfold ci
 rw [cI]
theorem iY {b:List UInt8} {v:Nat}:∀ (ts:List STable) (k:Nat),(cq b ts (min v b.length+k)).1=(cq b ts (v+k)).1∧∃ c,(cq b ts (min v b.length+k)).2=min v b.length+c∧(cq b ts (v+k)).2=v+c
 |[],k=>⟨rfl,k,rfl,rfl⟩
 |t::ts,k=>by
  have hb:∀ j n,cv b (min v b.length+j) n=cv b (v+j) n:=fun j n=>cI
  by_cases h1:0<cv b (v+(k+t.keys.length)) 4
  ·by_cases h2:cv b (v+(k+t.keys.length+3)) 2=1
   ·obtain ⟨i1,c,i2,i3⟩:=iY ts (k+t.keys.length+3+3)
    simp only [Nat.add_assoc,Nat.reduceAdd] at i1 i2 i3 h1 h2
    simp only [cq,Nat.add_assoc,Nat.reduceAdd,hb,ci,h1,h2,if_true,ni]
    rw [i1]
    exact ⟨rfl,c,i2,i3⟩
   ·obtain ⟨i1,c,i2,i3⟩:=iY ts (k+t.keys.length+3+1)
    simp only [Nat.add_assoc,Nat.reduceAdd] at i1 i2 i3 h1 h2
    simp only [cq,Nat.add_assoc,Nat.reduceAdd,hb,ci,h1,h2,if_true,if_false,ni]
    rw [i1]
    exact ⟨rfl,c,i2,i3⟩
  ·by_cases h2:cv b (v+(k+t.keys.length+1)) 2=1
   ·obtain ⟨i1,c,i2,i3⟩:=iY ts (k+t.keys.length+1+3)
    simp only [Nat.add_assoc,Nat.reduceAdd] at i1 i2 i3 h1 h2
    simp only [cq,Nat.add_assoc,Nat.reduceAdd,hb,ci,h1,h2,if_true,if_false,ni]
    rw [i1]
    exact ⟨rfl,c,i2,i3⟩
   ·obtain ⟨i1,c,i2,i3⟩:=iY ts (k+t.keys.length+1+1)
    simp only [Nat.add_assoc,Nat.reduceAdd] at i1 i2 i3 h1 h2
    simp only [cq,Nat.add_assoc,Nat.reduceAdd,hb,ci,h1,h2,if_true,if_false,ni]
    rw [i1]
    exact ⟨rfl,c,i2,i3⟩
theorem Cm {b:List UInt8} {v:Nat}:(mr b v).1=.slice .any 5 ((bh b v).1.map dT):=(rfl)
theorem CB {b:List UInt8} {v:Nat}:(mr b v).2=(bh b v).2:=(rfl)
theorem C3 {b:List UInt8} {v:Nat}:(kH b v).1=.slice .any 5 ((cD b v).map bj):=(rfl)
theorem Cv {b:List UInt8} {v:Nat}:(kH b v).2=cp v 4:=(rfl)
theorem CP {b:List UInt8} {v:Nat}:(mu b v).1=.slice .any 8 ((bD b v).map bc):=(rfl)
theorem Em {b:List UInt8} {v:Nat}:(mu b v).2=cp v 12:=(rfl)
theorem vD {v k n:Nat}:cp (cp v k) n=cp v (k+n):=by unfold cp;omega
theorem tg2 {b:List UInt8} {w:Nat}:(List.map bc (bD b w)).getD 2 .junk=.agg [.int .i64 (dk b w).id,.str (dk b w).name,.slice .any 3 ((dk b w).keys.map bT),.slice .any 1 (inL (dk b w).actions),.int .i64 (dk b w).dflt,.slice .any 2 ((dk b w).dargs.map vv),.int .i64 (dk b w).size,.str (dk b w).restr]:=(rfl)
theorem tg3 {b:List UInt8} {w:Nat}:(List.map bc (bD b w)).getD 3 .junk=.agg [.int .i64 (dm b w).id,.str (dm b w).name,.slice .any 3 ((dm b w).keys.map bT),.slice .any 1 (inL (dm b w).actions),.int .i64 (dm b w).dflt,.slice .any 2 ((dm b w).dargs.map vv),.int .i64 (dm b w).size,.str (dm b w).restr]:=(rfl)
theorem tgl {b:List UInt8} {w:Nat}:(bD b w).length=4:=(rfl)
theorem k2l {b:List UInt8} {w:Nat}:(((dk b w).keys.length:Int)==3)=decide (cv b (cp w 5) 2=1):=by
 by_cases h:cv b (w+5) 2=1<;>simp [dk,cp,h]
theorem k3l {b:List UInt8} {w:Nat}:(((dm b w).keys.length:Int)==3)=decide (cv b (cp w 7) 2=1):=by
 by_cases h:cv b (w+7) 2=1<;>simp [dm,cp,h]
def H4 (p:Prop):Bool→Prop|true=>p|false=>¬ p
theorem qr {p:Prop} [Decidable p] {t:Bool} (h:decide p=t):H4 p t:=by
 cases t
 ·exact (of_decide_eq_false h:¬ p)
 ·exact (of_decide_eq_true h:p)
end Go.AL
