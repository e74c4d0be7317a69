/- Lemmas of the proof; no condition. -/
import Derived.Test.YthnlhjalhflgfaaGreatS10z
import Derived.Test.YthnlhjalhflgfaaGreatLVal
import Derived.Test.YthnlhjalhflgfaaGreatLSch2
set_option linter.all false
set_option maxRecDepth 10000
set_option maxHeartbeats 32000000
open List renaming length_cons → yaz, length_nil → yba, take_of_length_le → ybc, drop_append → ybd, take_append → ybe, drop_eq_nil_of_le → ybf, cons_append → yal, nil_append → yak, take_succ_cons → yaq, take_zero → yar, drop_succ_cons → yao, drop_zero → yap, map_cons → yae
open Go Go.AL Go.Proofs
namespace Go.AL
theorem Gz:ti Tryz.prog 3=some ⟨.int .i64,1,8,.int .i64 0⟩:=by kernel_rfl
theorem yM:ti Tryz.prog 45=some ⟨.struct [(0,3,false),(1,9,false),(2,3,false)],3,32,.agg [.int .i64 0,.str [],.int .i64 0]⟩:=by kernel_rfl
theorem wE:ti Tryz.prog 69=some ⟨.struct [(0,3,false),(1,9,false),(2,23,false)],3,48,.agg [.int .i64 0,.str [],.slice .nil 1 []]⟩:=by kernel_rfl
theorem B6:ti Tryz.prog 108=some ⟨.struct [(0,106,false),(2,106,false),(4,3,false)],5,40,.agg [.int .u64 0,.int .u64 0,.int .u64 0,.int .u64 0,.int .i64 0]⟩:=by kernel_rfl
theorem yL:ti Tryz.prog 81=some ⟨.struct [(0,3,false),(1,3,false),(2,3,false),(3,79,false),(4,3,false)],5,56,.agg [.int .i64 0,.int .i64 0,.int .i64 0,.slice .nil 1 [],.int .i64 0]⟩:=by kernel_rfl
theorem CU:ti Tryz.prog 112=some ⟨.struct [(0,3,false),(1,3,false),(2,110,false)],6,48,.agg [.int .i64 0,.int .i64 0,.int .i64 0,.int .i64 0,.int .u64 0,.int .u64 0]⟩:=by kernel_rfl
theorem uk:ti Tryz.prog 110=some ⟨.struct [(0,3,false),(1,3,false),(2,106,false)],4,32,.agg [.int .i64 0,.int .i64 0,.int .u64 0,.int .u64 0]⟩:=by kernel_rfl
theorem yP:ti Tryz.prog 114=some ⟨.struct [(0,9,false),(1,3,false)],2,24,.agg [.str [],.int .i64 0]⟩:=by kernel_rfl
theorem vW:ti Tryz.prog 86=some ⟨.struct [(0,3,false),(1,9,false),(2,83,false),(3,84,false),(4,9,false)],5,88,.agg [.int .i64 0,.str [],.slice .nil 1 [],.slice .nil 1 [],.str []]⟩:=by kernel_rfl
theorem Gn:ti Tryz.prog 53=some ⟨.struct [(0,9,false),(1,3,false),(2,3,false)],3,32,.agg [.str [],.int .i64 0,.int .i64 0]⟩:=by kernel_rfl
theorem Av:ti Tryz.prog 57=some ⟨.struct [(0,3,false),(1,9,false),(2,54,false),(3,23,false),(4,3,false),(5,55,false),(6,3,false),(7,9,false)],8,128,.agg [.int .i64 0,.str [],.slice .nil 1 [],.slice .nil 1 [],.int .i64 0,.slice .nil 1 [],.int .i64 0,.str []]⟩:=by kernel_rfl
theorem As:ti Tryz.prog 75=some ⟨.struct [(0,3,false),(1,3,false)],2,16,.agg [.int .i64 0,.int .i64 0]⟩:=by kernel_rfl
theorem Ag:ti Tryz.prog 119=some ⟨.struct [(0,3,false),(1,4,false),(2,4,false),(3,117,false)],4,40,.agg [.int .i64 0,.bool false,.bool false,.slice .nil 1 []]⟩:=by kernel_rfl
theorem F8:ti Tryz.prog 48=some ⟨.struct [(0,3,false),(1,9,false),(2,46,false),(3,23,false),(4,3,false),(5,4,false)],6,88,.agg [.int .i64 0,.str [],.slice .nil 1 [],.slice .nil 1 [],.int .i64 0,.bool false]⟩:=by kernel_rfl
theorem Hh:ti Tryz.prog 50=some ⟨.struct [(0,3,false),(1,3,false),(2,3,false),(3,3,false),(4,3,false),(5,3,false)],6,48,.agg [.int .i64 0,.int .i64 0,.int .i64 0,.int .i64 0,.int .i64 0,.int .i64 0]⟩:=by kernel_rfl
theorem vy:ti Tryz.prog 34=some ⟨.struct [(0,25,false),(1,26,false),(2,27,false),(3,28,false),(4,29,false),(5,30,false),(6,31,false),(7,32,false),(8,3,false),(9,3,false)],10,208,.agg [.slice .nil 1 [],.slice .nil 1 [],.slice .nil 1 [],.slice .nil 1 [],.slice .nil 1 [],.slice .nil 1 [],.slice .nil 1 [],.slice .nil 1 [],.int .i64 0,.int .i64 0]⟩:=by kernel_rfl
theorem zo:ti Tryz.prog 25=some ⟨.slice 45,1,24,.slice .nil 1 []⟩:=by kernel_rfl
theorem v7:ti Tryz.prog 26=some ⟨.slice 69,1,24,.slice .nil 1 []⟩:=by kernel_rfl
theorem Cv:ti Tryz.prog 79=some ⟨.slice 108,1,24,.slice .nil 1 []⟩:=by kernel_rfl
theorem yW:ti Tryz.prog 27=some ⟨.slice 81,1,24,.slice .nil 1 []⟩:=by kernel_rfl
theorem DG:ti Tryz.prog 84=some ⟨.slice 112,1,24,.slice .nil 1 []⟩:=by kernel_rfl
theorem Ac:ti Tryz.prog 83=some ⟨.slice 114,1,24,.slice .nil 1 []⟩:=by kernel_rfl
theorem xa:ti Tryz.prog 28=some ⟨.slice 86,1,24,.slice .nil 1 []⟩:=by kernel_rfl
theorem Jz:ti Tryz.prog 54=some ⟨.slice 53,1,24,.slice .nil 1 []⟩:=by kernel_rfl
theorem yK:ti Tryz.prog 29=some ⟨.slice 57,1,24,.slice .nil 1 []⟩:=by kernel_rfl
theorem z0:ti Tryz.prog 30=some ⟨.slice 75,1,24,.slice .nil 1 []⟩:=by kernel_rfl
theorem zt:ti Tryz.prog 46=some ⟨.slice 119,1,24,.slice .nil 1 []⟩:=by kernel_rfl
theorem E5:ti Tryz.prog 31=some ⟨.slice 48,1,24,.slice .nil 1 []⟩:=by kernel_rfl
theorem ID:ti Tryz.prog 32=some ⟨.slice 50,1,24,.slice .nil 1 []⟩:=by kernel_rfl
theorem Gv:ti Tryz.prog 55=some ⟨.slice 106,1,24,.slice .nil 1 []⟩:=by kernel_rfl
theorem Jr:ti Tryz.prog 23=some ⟨.slice 3,1,24,.slice .nil 1 []⟩:=by kernel_rfl
theorem Ga:ti Tryz.prog 117=some ⟨.slice 4,1,24,.slice .nil 1 []⟩:=by kernel_rfl
attribute [go_sem] Gz yM wE B6 yL CU uk yP vW Gn Av As Ag F8 Hh vy zo v7 Cv yW DG Ac xa Jz yK z0 zt E5 ID Gv Jr Ga
def bF:List AV→AHeap→(AEnd→AHeap→Prop)→Prop
 |[.ptr id 0],H,K=>onC (H.get id) fun b v=>K (.ret (.bool (decide (cv b v 2=1)))) (H.set id (cK b (v+1)))
 |_,_,_=>False
theorem jC:EntOk Tryz.prog 24 (Ent.effect bF):=by
 refine EntOk.effect fun args H K h=>?_
 unfold bF at h
 split at h
 rotate_left
 ·exact h.elim
 rename_i id
 obtain ⟨b,v,hg,hb,hv,hK⟩:=kq h
 refine ⟨_,_,hK,?_⟩
 clear hK
 refine ACalls.fW ak (tCq i5 tNq) Tryz.func24 [.tmp 2] (nrq _) (T:=aj []) (h:=fun hcl hlt=>?_)
 clear hlt
 have hid:=glq hg
 have hcl2:(H.set id (cK b (v+1))).Closed:=bb hcl fS
 have e2:(2:Int).toNat=2:=rfl
 simp only [go_sem,bH,hg,bE hb,cp,e2,Nat.add_zero,Nat.min_eq_left hv]
 have e:((((cv b v 2:Nat):Int))==1)=decide (cv b v 2=1):=by rw [Bool.eq_iff_iff];simp;omega
 refine ⟨⟨by decide,by decide⟩,?_⟩
 rw [e]
 simp (disch:=first|exact Zd|omega) [↓zmo,beq,ybc,ybd,ybe,aa,wk,wk2,wk1,wkM,wkL,af,ybf,hcl2]
theorem oB {id n:Nat} (h:id<n):((id=n)=False)∧((id=n+1)=False)∧((id=n+1+1)=False)∧((id=n+1+1+1)=False)∧((id=n+1+1+1+1)=False)∧((id=n+1+1+1+1+1)=False)∧((id=n+1+1+1+1+1+1)=False)∧((id=n+1+1+1+1+1+1+1)=False)∧((id=n+1+1+1+1+1+1+1+1)=False)∧((id=n+1+1+1+1+1+1+1+1+1)=False)∧((id=n+1+1+1+1+1+1+1+1+1+1)=False)∧((id=n+1+1+1+1+1+1+1+1+1+1+1)=False)∧((id=n+1+1+1+1+1+1+1+1+1+1+1+1)=False)∧((id=n+1+1+1+1+1+1+1+1+1+1+1+1+1)=False)∧((id=n+1+1+1+1+1+1+1+1+1+1+1+1+1+1)=False)∧((id=n+1+1+1+1+1+1+1+1+1+1+1+1+1+1+1)=False) :=
 ⟨eq_false (by omega),eq_false (by omega),eq_false (by omega),eq_false (by omega),eq_false (by omega),eq_false (by omega),eq_false (by omega),eq_false (by omega),eq_false (by omega),eq_false (by omega),eq_false (by omega),eq_false (by omega),eq_false (by omega),eq_false (by omega),eq_false (by omega),eq_false (by omega)⟩
theorem lc {H:AHeap} {id:Nat} (h:id<H.nx) (b:List UInt8) (v:Nat):(H.set id (cK b v)).get id=some (cK b v):=AHeap.get_set_same _ _ h
theorem hY {b:List UInt8} {v:Nat}:([AV.int .i64 0,.int .i64 0,.int .i64 65535,.int .i64 3].getD (cv b v 4) .junk)=.int .i64 (kx (cv b v 4)):=by
 have h:=gS (b:=b) (v:=v) (n:=4) (by decide)
 unfold kx
 generalize cv b v 4=c at *
 match c,h with
 |0,_=>rfl
 |1,_=>rfl
 |2,_=>rfl
 |3,_=>rfl
theorem aU {α:Type} {n sz:Nat} {f:α→AV} {l:List α} (h:∀ x,AV.lt n (f x)):AV.lt n (.slice .any sz (l.map f)):=se fun x hx=>by
 obtain ⟨y,_,rfl⟩:=List.mem_map.1 hx
 exact h y
theorem g9 {n v:Nat} {l:List AV}:ltL n (vc v++l)=ltL n l:=by simp [vc,znu,znf]
theorem fE {n v:Nat}:ltL n (vc v)=True:=by simp [vc,znu,znv,znf]
theorem pW {n:Nat} {l:List Int}:AV.lt n (.slice .any 1 (inL l)):=aU fun x=>by simp only [znf]
theorem F6 {n:Nat} {l:List Bool}:AV.lt n (.slice .any 1 (boL l)):=aU fun x=>by simp only [zng]
theorem wv {n:Nat} {l:List Nat}:AV.lt n (.slice .any 2 (l.map vv)):=aU fun x=>by simp only [vv,znr,znu,znv,znf,and_true]
theorem qA {n:Nat} (x:SField):AV.lt n (aV x):=by
 simp only [aV,znr,znu,znv,znf,znh,zng,g9,fE,List.append_assoc,yal,yak,true_and,and_true]
theorem nT {n:Nat} (x:SHeader):AV.lt n (aH x):=by
 simp only [aH,znr,znu,znv,znf,znh,zng,g9,fE,List.append_assoc,yal,yak,true_and,and_true]
 exact pW
theorem sU {n:Nat} (x:SCase):AV.lt n (cM x):=by
 simp only [cM,znr,znu,znv,znf,znh,zng,g9,fE,List.append_assoc,yal,yak,true_and,and_true]
theorem fw {n:Nat} (x:SState):AV.lt n (aL x):=by
 simp only [aL,znr,znu,znv,znf,znh,zng,g9,fE,List.append_assoc,yal,yak,true_and,and_true]
 exact aU sU
theorem tu {n:Nat} (x:SPrim):AV.lt n (cl x):=by
 simp only [cl,znr,znu,znv,znf,znh,zng,g9,fE,List.append_assoc,yal,yak,true_and,and_true]
theorem kZ {n:Nat} (x:SParam):AV.lt n (bv x):=by
 simp only [bv,znr,znu,znv,znf,znh,zng,g9,fE,List.append_assoc,yal,yak,true_and,and_true]
theorem lI {n:Nat} (x:SAction):AV.lt n (ax x):=by
 simp only [ax,znr,znu,znv,znf,znh,zng,g9,fE,List.append_assoc,yal,yak,true_and,and_true]
 exact ⟨aU kZ,aU tu⟩
theorem vA {n:Nat} (x:SKey):AV.lt n (bN x):=by
 simp only [bN,znr,znu,znv,znf,znh,zng,g9,fE,List.append_assoc,yal,yak,true_and,and_true]
theorem dp {n:Nat} (x:STable):AV.lt n (az x):=by
 simp only [az,znr,znu,znv,znf,znh,zng,g9,fE,List.append_assoc,yal,yak,true_and,and_true]
 exact ⟨aU vA,pW,wv⟩
theorem qy {n:Nat} (x:SStage):AV.lt n (cu x):=by
 simp only [cu,znr,znu,znv,znf,znh,zng,g9,fE,List.append_assoc,yal,yak,true_and,and_true]
theorem jJ {n:Nat} (x:SGrant):AV.lt n (bk x):=by
 simp only [bk,znr,znu,znv,znf,znh,zng,g9,fE,List.append_assoc,yal,yak,true_and,and_true]
 exact F6
theorem oZ {n:Nat} (x:SRole):AV.lt n (br x):=by
 simp only [br,znr,znu,znv,znf,znh,zng,g9,fE,List.append_assoc,yal,yak,true_and,and_true]
 exact ⟨aU jJ,pW⟩
theorem s7 {n:Nat} (x:SRef):AV.lt n (bZ x):=by
 simp only [bZ,znr,znu,znv,znf,znh,zng,g9,fE,List.append_assoc,yal,yak,true_and,and_true]
theorem vO {n:Nat} (x:Sch):AV.lt n (mI x):=by
 simp only [mI,aO,znr,znu,znv,znf,true_and,and_true]
 exact ⟨aU qA,aU nT,aU fw,aU lI,aU dp,aU qy,aU oZ,aU s7⟩
theorem J2 {b:List UInt8} {u n:Nat} (h:0<n):(0≤((cv b u n:Nat):Int)∧((cv b u n:Nat):Int)<(n:Int))=True:=eq_true ⟨by omega,by have:=gS (b:=b) (v:=u) h;omega⟩
def eG (g:List UInt8→Nat→AV × Nat):List AV→AHeap→(AEnd→AHeap→Prop)→Prop
 |[.ptr id 0],H,K=>onC (H.get id) fun b v=>K (.ret (g b v).1) (H.set id (cK b (g b v).2))
 |_,_,_=>False
def nz:=eG fun b v=>(.slice .any 5 ((bR b v).1.map aL),(bR b v).2)
theorem vP:EntOk Tryz.prog 20 (Ent.effect nz):=by
 unfold nz
 refine EntOk.effect fun args H K h=>?_
 unfold eG at h
 split at h
 rotate_left
 ·exact h.elim
 rename_i id
 obtain ⟨b,v,hg,hb,hv,hK⟩:=kq h
 refine ⟨_,_,hK,?_⟩
 clear hK
 refine ACalls.fW ak (tCq i5 (tCq jC tNq)) Tryz.func20 [.tmp 2] (nrq _) (T:=aj [(5,[[],[],[],[],[],[3],[],[],[],[],[3],[],[3,10],[],[3,10,12],[1,3,10,12],[],[1,3,10,12]]),(10,[[16]])]) (h:=fun hcl hlt=>?_)
 clear hlt
 have hid:=glq hg
 have hne:=oB hid
 have hgc:=lc (b:=b) hid
 have hcl2:∀ w,(H.set id (cK b w)).Closed:=fun w=>bb hcl fS
 have c4:∀ u,(0≤((cv b u 4:Nat):Int)∧((cv b u 4:Nat):Int)<((4:Nat):Int))=True:=fun u=>J2 (by decide)
 simp only [go_sem,bH,bF,hg,hgc,bE hb,cb,bz,cq,hne,hY,c4,iNq]
 have w8:∀ u,IntKind.u64.wrap (IntKind.i64.wrap (8*((cv b u 2:Nat):Int)))=((8*cv b u 2:Nat):Int):=fun u=>by
  have:=gS (b:=b) (v:=u) (n:=2) (by decide)
  rw [wrap_i64 (by omega) (by omega),jB (by omega) (by omega)];omega
 have w1:∀ u,IntKind.i64.wrap (1+((cv b u 3:Nat):Int))=1+((cv b u 3:Nat):Int):=fun u=>by
  have:=gS (b:=b) (v:=u) (n:=3) (by decide)
  rw [wrap_i64 (by omega) (by omega)]
 have hvs:∀ u,vc (8*cv b u 2)=[.int .u64 0,.int .u64 ((8*cv b u 2:Nat):Int)]:=fun u=>kG (by
  have:=gS (b:=b) (v:=u) (n:=2) (by decide)
  omega)
 refine ⟨by decide,ah (fun h1=>?_) (fun h1=>?_)⟩
 ·have h1':cv b (v+1) 2=1:=of_decide_eq_true h1
  simp only [aJ,ag,bhq,Nat.reduceMod,Nat.reduceDiv,aC,aB,aD,aT,aE,aS,aP,aQ,aR,yaq,yar,yao,yap,go_sem,bH,bF,hg,hgc,bE hb,cb,bz,cq,hne,hY,c4,w8,w1,iNq]
  refine ⟨by decide,by decide,⟨by simp [ziq,zgq,zgr,zgs],by decide,by decide,ah (fun h2=>?_) (fun h2=>?_)⟩⟩
  ·have h2':cv b (v+5) 3=1:=by simp [cp] at h2;omega
   simp only [aJ,ag,bhq,Nat.reduceMod,Nat.reduceDiv,aC,aB,aD,aT,aE,aS,aP,aQ,aR,yaq,yar,yao,yap,go_sem,bH,bF,hg,hgc,bE hb,cb,bz,cq,hne,hY,c4,w8,w1,iNq]
   refine ⟨by decide,?_⟩
   refine gg 2 (.slice .any 5 ((bR b v).1.map aL)) ?_ ?_
   ·exact Z3
   ·have e:(bR b v).2=cp v 7:=by unfold bR;simp only [h1',h2',if_true,if_false];rfl
    rw [e]
    simp only [go_sem,bhq,Nat.reduceMod,Nat.reduceDiv,aC,aB,aD,aT,aE,aS,aP,aQ,aR,yaq,yar,yao,yap]
    simp (disch:=first|exact Zd|omega) [↓zmo,beq,ybc,ybd,ybe,aa,wk,wk2,wk1,wkM,wkL,af,ybf,hcl2]
    first|exact aU fw|exact ⟨by repeat first|exact .refl _|refine .push ?_ _,aU fw⟩
  ·have h2':¬ cv b (v+5) 3=1:=by simp [cp] at h2;omega
   simp only [aJ,ag,bhq,Nat.reduceMod,Nat.reduceDiv,aC,aB,aD,aT,aE,aS,aP,aQ,aR,yaq,yar,yao,yap,go_sem,bH,bF,hg,hgc,bE hb,cb,bz,cq,hne,hY,c4,w8,w1,iNq]
   refine gg 2 (.slice .any 5 ((bR b v).1.map aL)) ?_ ?_
   ·exact Z3
   ·have e:(bR b v).2=cp v 6:=by unfold bR;simp only [h1',h2',if_true,if_false];rfl
    rw [e]
    simp only [go_sem,bhq,Nat.reduceMod,Nat.reduceDiv,aC,aB,aD,aT,aE,aS,aP,aQ,aR,yaq,yar,yao,yap]
    simp (disch:=first|exact Zd|omega) [↓zmo,beq,ybc,ybd,ybe,aa,wk,wk2,wk1,wkM,wkL,af,ybf,hcl2]
    first|exact aU fw|exact ⟨by repeat first|exact .refl _|refine .push ?_ _,aU fw⟩
 ·have h1':¬ cv b (v+1) 2=1:=of_decide_eq_false h1
  simp only [aJ,ag,bhq,Nat.reduceMod,Nat.reduceDiv,aC,aB,aD,aT,aE,aS,aP,aQ,aR,yaq,yar,yao,yap,go_sem,bH,bF,hg,hgc,bE hb,cb,bz,cq,hne,hY,c4,w8,w1,iNq]
  refine ⟨by decide,by decide,ah (fun h2=>?_) (fun h2=>?_)⟩
  ·have h2':cv b (v+3) 3=1:=by simp [cp] at h2;omega
   simp only [aJ,ag,bhq,Nat.reduceMod,Nat.reduceDiv,aC,aB,aD,aT,aE,aS,aP,aQ,aR,yaq,yar,yao,yap,go_sem,bH,bF,hg,hgc,bE hb,cb,bz,cq,hne,hY,c4,w8,w1,iNq]
   refine ⟨by decide,?_⟩
   refine gg 2 (.slice .any 5 ((bR b v).1.map aL)) ?_ ?_
   ·exact Z3
   ·have e:(bR b v).2=cp v 5:=by unfold bR;simp only [h1',h2',if_true,if_false];rfl
    rw [e]
    simp only [go_sem,bhq,Nat.reduceMod,Nat.reduceDiv,aC,aB,aD,aT,aE,aS,aP,aQ,aR,yaq,yar,yao,yap]
    simp (disch:=first|exact Zd|omega) [↓zmo,beq,ybc,ybd,ybe,aa,wk,wk2,wk1,wkM,wkL,af,ybf,hcl2]
    first|exact aU fw|exact ⟨by repeat first|exact .refl _|refine .push ?_ _,aU fw⟩
  ·have h2':¬ cv b (v+3) 3=1:=by simp [cp] at h2;omega
   simp only [aJ,ag,bhq,Nat.reduceMod,Nat.reduceDiv,aC,aB,aD,aT,aE,aS,aP,aQ,aR,yaq,yar,yao,yap,go_sem,bH,bF,hg,hgc,bE hb,cb,bz,cq,hne,hY,c4,w8,w1,iNq]
   refine gg 2 (.slice .any 5 ((bR b v).1.map aL)) ?_ ?_
   ·exact Z3
   ·have e:(bR b v).2=cp v 4:=by unfold bR;simp only [h1',h2',if_true,if_false];rfl
    rw [e]
    simp only [go_sem,bhq,Nat.reduceMod,Nat.reduceDiv,aC,aB,aD,aT,aE,aS,aP,aQ,aR,yaq,yar,yao,yap]
    simp (disch:=first|exact Zd|omega) [↓zmo,beq,ybc,ybd,ybe,aa,wk,wk2,wk1,wkM,wkL,af,ybf,hcl2]
    first|exact aU fw|exact ⟨by repeat first|exact .refl _|refine .push ?_ _,aU fw⟩
theorem vM:ti Tryz.prog 115=some ⟨.slice 9,1,24,.slice .nil 1 []⟩:=by kernel_rfl
theorem vq:ti Tryz.prog 116=some ⟨.slice 115,1,24,.slice .nil 1 []⟩:=by kernel_rfl
attribute [go_sem] vM vq
def JnT {α:Type} (F:α→Fr) (G:α→AHeap) (I:α→Prop) (K:Fr→AHeap→Prop):Prop:=∀ x,I x→K (F x) (G x)
theorem Fs {α:Type} (F:α→Fr) (G:α→AHeap) (I:α→Prop) {K:Fr→AHeap→Prop} {C:Prop} (h:JnT F G I K→C) (hJ:JnT F G I K):C:=h hJ
theorem vY {F:Nat × AHeap→Fr} {I:Nat × AHeap→Prop} {n0 s id off sz len:Nat} {K:Fr→AHeap→Prop} {fr:Fr} {H:AHeap} (J:JnT F (fun x=>x.2) (fun x=>x.2.Closed∧I x) K) (hs:Fr.get fr s=.ms id off sz len) (hc:H.Closed) (hx:I (id,H)) (hn:n0≤H.nx) (hl:ltF H.nx (F (id,H))) (hw:ba H H (F (id,H)) fr):jD n0 K fr H:=rj _ _ ⟨hn,lRq _,hc,hl,hw⟩ (J _ ⟨hc,hx⟩)
theorem rB {n0 s id off sz len:Nat} {K:Fr→AHeap→Prop} {fr:Fr} {H:AHeap} {cs:List AV} (cs':List AV) (hs:Fr.get fr s=.ms id off sz len) (hc:aF H id=some cs) (h:kA cs cs') (hk:K fr (H.set id (.cells cs'))):jD n0 K fr H:=m0 id cs' hc h hk
structure But (id:Nat) (H Hc:AHeap):Prop where
 nx:H.nx≤Hc.nx
 get:∀ j x,j≠id→H.get j=some x→Hc.get j=some x
theorem But.push {id:Nat} {H Hc:AHeap} (h:But id H Hc) (o:AObj):But id H (Hc.push o):=⟨by rw [zle];exact Nat.le_succ_of_le h.nx,fun j x hj hx=>by
 have:=h.get j x hj hx
 rw [gPq _ _ (glq this)];exact this⟩
theorem But.set {id i:Nat} {H Hc:AHeap} (h:But id H Hc) (o:AObj) (hi:i=id∨H.nx≤i):But id H (Hc.set i o):=⟨by rw [zlf];exact h.nx,fun j x hj hx=>by
 have hlt:=glq hx
 rw [AHeap.get_set_ne _ _ (by rcases hi with rfl|hi<;>omega)]
 exact h.get j x hj hx⟩
theorem But.del {id i:Nat} {H Hc:AHeap} (h:But id H Hc) (hi:H.nx≤i):But id H (Hc.del i):=⟨by rw [iu];exact h.nx,fun j x hj hx=>by
 have hlt:=glq hx
 rw [j4,if_neg (by omega)]
 exact h.get j x hj hx⟩
theorem But.self {id:Nat} {H:AHeap}:But id H H:=⟨nrq _,fun _ _ _ h=>h⟩
theorem But.le {id:Nat} {H Hc:AHeap} {o:AObj} (h:But id H Hc) (hg:Hc.get id=some o):(H.set id o).Le Hc:=GG h.get hg h.nx
theorem sm {H:AHeap} {i j:Nat} {o o':AObj} (h:i≠j):(H.set i o).set j o'=(H.set j o').set i o:=by
 simp only [AHeap.set,AHeap.mk.injEq,true_and]
 funext k
 by_cases h1:k=i
 ·subst h1;simp [h]
 ·simp [h1]
theorem EN {H:AHeap} {i:Nat} {o o':AObj}:(H.set i o).set i o'=H.set i o':=by
 simp only [AHeap.set,AHeap.mk.injEq,true_and]
 funext k
 by_cases h1:k=i<;>simp [h1]
def Ab (b:List UInt8) (v k:Nat):List STable:=(cD b v).take k++((cD b v).drop k).map fun t=>{ t with restr:=[] }
def rc (b:List UInt8) (v k:Nat):List AV:=(Ab b v k).flatMap fun t=>(az t).cells
theorem vp {α:Type} {n:Nat} {f:α→AV} {l:List α} (h:∀ x,AV.lt n (f x)):ltL n (l.flatMap fun x=>(f x).cells):=ltL_iff.2 fun j hj=>by
 obtain ⟨x,_,hx⟩:=List.mem_flatMap.1 (gMq hj)
 obtain ⟨k,hk,e⟩:=List.mem_iff_getElem.1 hx
 rw [← e];exact AV.lt_cells (h x) k hk
theorem kX {α:Type} {sz:Nat} (h1:sz≠1) (f:α→List AV) (hf:∀ x,(f x).length=sz):∀ l:List α,bV sz l.length (l.flatMap f)=l.map fun x=>.agg (f x)
 |[]=>rfl
 |x::l=>by
  rw [yaz,List.flatMap_cons,bV,if_neg h1,yae,show (f x++l.flatMap f).drop sz=l.flatMap f by rw [← hf x,List.drop_left],kX h1 f hf l]
  congr 2
  apply List.ext_getElem
  ·simp [hf]
  ·intro j a1 a2
   simp only [List.getElem_map,List.getElem_range]
   rw [gEq,List.getElem?_append_left a2,gQq a2];rfl
def ky:AV:=.slice .any 1 [.slice .any 1 (gText0.map .str),.slice .any 1 (gText1.map .str),.slice .any 1 (gText2.map .str),.slice .any 1 (gText3.map .str)]
def n6:=eG fun b v=>(.slice .any 8 ((cD b v).map az),v+12)
theorem ws:EntOk Tryz.prog 22 (Ent.effect n6):=by
 unfold n6
 refine EntOk.effect fun args H K h=>?_
 unfold eG at h
 split at h
 rotate_left
 ·exact h.elim
 rename_i id
 obtain ⟨b,v,hg,hb,hv,hK⟩:=kq h
 refine ⟨_,_,hK,?_⟩
 clear hK
 refine ACalls.fW ak (tCq i5 (tCq jC tNq)) Tryz.func22 [.tmp 2] (nrq _) (T:=aj [(16,[[],[],[],[],[],[],[],[],[],[7],[],[],[5,7,9]]),(11,[[14]]),(13,[[1,1,1]])]) (h:=fun hcl hlt=>?_)
 clear hlt
 have hid:=glq hg
 have hne:=oB hid
 have hne2:=oB (show id<H.nx+1+1+1+1+1+1+1+1+1+1+1+1+1+1+1+1 by omega)
 have hgc:=lc (b:=b) hid
 have hcl2:∀ w,(H.set id (cK b w)).Closed:=fun w=>bb hcl fS
 have c3:∀ u,(0≤((cv b u 3:Nat):Int)∧((cv b u 3:Nat):Int)<((3:Nat):Int))=True:=fun u=>J2 (by decide)
 have w1:∀ (u n:Nat) (k:Int),0<n→n≤100→0≤k→k≤100→IntKind.i64.wrap (k+((cv b u n:Nat):Int))=k+((cv b u n:Nat):Int):=fun u n k h1 h2 h3 h4=>by
  have:=gS (b:=b) (v:=u) (n:=n) h1
  rw [wrap_i64 (by omega) (by omega)]
 have e2:(2:Int).toNat=2:=rfl
 have e5:(5:Int).toNat=5:=rfl
 have e6:(6:Int).toNat=6:=rfl
 have e3:(3:Int).toNat=3:=rfl
 have a12:∀ u,IntKind.i64.wrap (1+((cv b u 2:Nat):Int))=1+((cv b u 2:Nat):Int):=fun u=>w1 u 2 1 (by decide) (by decide) (by decide) (by decide)
 have a25:∀ u,IntKind.i64.wrap (2+((cv b u 5:Nat):Int))=2+((cv b u 5:Nat):Int):=fun u=>w1 u 5 2 (by decide) (by decide) (by decide) (by decide)
 have a36:∀ u,IntKind.i64.wrap (3+((cv b u 6:Nat):Int))=3+((cv b u 6:Nat):Int):=fun u=>w1 u 6 3 (by decide) (by decide) (by decide) (by decide)
 have a46:∀ u,IntKind.i64.wrap (4+((cv b u 6:Nat):Int))=4+((cv b u 6:Nat):Int):=fun u=>w1 u 6 4 (by decide) (by decide) (by decide) (by decide)
 have a35:∀ u,IntKind.i64.wrap (3+((cv b u 5:Nat):Int))=3+((cv b u 5:Nat):Int):=fun u=>w1 u 5 3 (by decide) (by decide) (by decide) (by decide)
 simp only [go_sem,bH,bF,hg,hgc,bE hb,cb,bz,cq,hne,e2,e3,e5,e6,a12,a25,a36,a46,a35]
 apply Fs (α:=Nat × AHeap) (fun x=>[(0,.ptr id 0),(7,.ms x.1 0 8 4),(8,ky)]) (fun x=>x.2) (fun x=>x.2.Closed∧H.nx≤x.1∧x.1<x.2.nx∧But id H x.2∧x.2.get id=some (cK b (cp v 8))∧x.2.get x.1=some (.cells (rc b v 0)))
 ·intro J
  (repeat with_reducible refine Yq ?_)
  refine ah (fun h1=>?_) (fun h1=>?_)
  all_goals
   simp only [aJ,ag,bhq,Nat.reduceMod,Nat.reduceDiv,aC,aB,aD,aT,aE,aS,aP,aQ,aR,yaq,yar,yao,yap,go_sem,bH,bF,hg,hgc,bE hb,cb,bz,cq,hne,e2,e3,e5,e6,a12,a25,a36,a46,a35]
   (repeat with_reducible refine Yq ?_)
   refine ah (fun h2=>?_) (fun h2=>?_)
  all_goals
   simp only [aJ,ag,bhq,Nat.reduceMod,Nat.reduceDiv,aC,aB,aD,aT,aE,aS,aP,aQ,aR,yaq,yar,yao,yap,go_sem,bH,bF,hg,hgc,bE hb,cb,bz,cq,hne,e2,e3,e5,e6,a12,a25,a36,a46,a35]
   (repeat with_reducible refine Yq ?_)
   refine ah (fun h3=>?_) (fun h3=>?_)
  all_goals
   simp only [aJ,ag,bhq,Nat.reduceMod,Nat.reduceDiv,aC,aB,aD,aT,aE,aS,aP,aQ,aR,yaq,yar,yao,yap,go_sem,bH,bF,hg,hgc,bE hb,cb,bz,cq,hne,e2,e3,e5,e6,a12,a25,a36,a46,a35]
   (repeat with_reducible refine Yq ?_)
   refine rB (s:=7) (rc b v 0) rfl (by simp only [go_sem];rfl) ?_ ?_
   ·first|replace h1:=of_decide_eq_true h1|replace h1:=of_decide_eq_false h1
    first|replace h2:=of_decide_eq_true h2|replace h2:=of_decide_eq_false h2
    first|replace h3:=of_decide_eq_true h3|replace h3:=of_decide_eq_false h3
    simp only [cp] at h1 h2 h3
    simp [rc,Ab,cD,ij,ia,dt,du,az,bN,inL,vv,h1,h2,h3,cp,AV.cells,iF,dY,dX,eK,eJ,fm,iN,iM,il,wkM]
   refine gg 8 ky ?_ ?_
   ·simp [Fr.get,ky,gText0,gText1,gText2,gText3,AV.cells,dY,dX,eK,eJ,fm,iM,wkM]
   refine vY (s:=7) J rfl ?_ ?_ (by (try simp only [zkv,zkq,mw,zle,zlf]);omega) ?_ ?_
   ·repeat' (first|exact hcl2 _|refine bc ?_|refine bb ?_ ?_|refine ae ?_ ?_)
    all_goals first|exact vp fun _=>dp _|(simp [cJ,znu,znv,znf,znh,zng,znr,AV.cells,yal,yak,zle,zlf];try omega)
   ·dsimp only
    refine ⟨by (try simp only [zle,zlf]);omega,by (try simp only [zle,zlf]);omega,?_,?_,?_⟩
    ·repeat (first|exact But.self|refine But.push ?_ _|refine But.set ?_ _ (by first|exact .inl rfl|exact .inr (by (try simp only [zle,zlf]);omega)))
    ·simp only [go_sem,hne,hne2,hgc,cp]
    ·simp only [go_sem]
   ·simp [ltF,znn,znp,ky,gText0,gText1,gText2,gText3,znh,cJ,znu,znv,zle,zlf]
    try omega
   ·simp [ba,wk2,wk1,wkM,Fr.get,ky]
 ·rintro ⟨i,Hc⟩ ⟨q3,q1,q2,q4,q5,q6⟩
  dsimp only at q1 q2 q3 q4 q5 q6 ⊢
  have hii:i≠id:=by omega
  have gtx:∀ u x y z,([AV.str x,.str y,.str z]:List AV).getD (cv b u 3) .junk=.str ([x,y,z].getD (cv b u 3) []):=fun u x y z=>by
   have:=gS (b:=b) (v:=u) (n:=3) (by decide)
   rcases (by omega:cv b u 3=0∨cv b u 3=1∨cv b u 3=2) with e|e|e<;>rw [e]<;>rfl
  have hic:id<Hc.nx:=glq q5
  have hci:∀ C w,aF ((Hc.set i (.cells C)).set id (cK b w)) i=some C:=fun C w=>aq (by
   rw [AHeap.get_set_ne _ _ hii,AHeap.get_set_same _ _ q2])
  have hgd:∀ C w,((Hc.set i (.cells C)).set id (cK b w)).get id=some (cK b w):=fun C w=>AHeap.get_set_same _ _ (by rw [zlf];exact hic)
  have hsi:∀ C C' w,((Hc.set i (.cells C)).set id (cK b w)).set i (.cells C')=(Hc.set i (.cells C')).set id (cK b w):=fun C C' w=>by
   rw [← sm hii,EN,sm hii]
  have hsd:∀ C w w',((Hc.set i (.cells C)).set id (cK b w)).set id (cK b w')=(Hc.set i (.cells C)).set id (cK b w'):=fun C w w'=>y5
  have hclo:∀ k w,((Hc.set i (.cells (rc b v k))).set id (cK b w)).Closed:=fun k w=>bb (bb q3 (vp fun _=>dp _)) fS
  simp only [bhq,Nat.reduceMod,Nat.reduceDiv,aC,aB,aD,aT,aE,aS,aP,aQ,aR,yaq,yar,yao,yap,go_sem]
  refine ay (A:=Nat) (fun k=>[(0,.ptr id 0),(7,.ms i 0 8 4),(8,ky),(80,.int .i64 4),(81,.int .i64 (k:Int))]) (fun k=>(Hc.set i (.cells (rc b v k))).set id (cK b (cp v (8+k)))) (fun k=>k≤4) (fun k=>4 - k) 0 (by omega) ?_ fun k hk=>?_
  ·refine ⟨by simp only [zlf,zkq,zkv];have:=q4.nx;omega,?_,hclo _ _,?_,?_⟩
   ·exact ((kj (by rw [AHeap.get_set_ne _ _ (fun e=>hii e.symm)];exact q5)).trans (kj q6))
   ·simp [ltF,znn,znp,znf,ky,gText0,gText1,gText2,gText3,znh,cJ,znu,znv,zlf]
    omega
   ·simp [ba,wk2,wk1,wkM,Fr.get,ky]
  simp only [go_sem]
  refine ah (fun hc=>?_) (fun hc=>?_)
  ·have hk4:k<4:=by simp at hc;omega
   have c3':∀ u,(0≤((cv b u 3:Nat):Int)∧((cv b u 3:Nat):Int)<((3:Nat):Int)):=fun u=>of_eq_true (c3 u)
   have e4:IntKind.i64.wrap ((k:Int)+1)=((k+1:Nat):Int):=by rw [wrap_i64]<;>omega
   rcases (by omega:k=0∨k=1∨k=2∨k=3) with rfl|rfl|rfl|rfl
   ·simp only [go_sem,ky,gText0,gText1,gText2,gText3,bH,hgd,hci,hsi,hsd,bE hb,cb,bz,cq,e3,gtx,c3',e4,show IntKind.i64.wrap 1=1 from by decide,iNq,zok,rc,Ab,cD,List.flatMap_cons,List.flatMap_nil,az,AV.cells,yal,yak]
    refine ⟨by decide,by decide,by decide,1,by decide,by decide,by simp only [zlf,zkq,zkv];have:=q4.nx;omega,lRq _,hclo 1 _,?_,?_⟩
    ·simp [ltF,znn,znp,znf,znh,cJ,znu,znv,zlf]
     omega
    ·simp [ba,wk2,wk1,wkM,Fr.get]
   ·simp only [go_sem,ky,gText0,gText1,gText2,gText3,bH,hgd,hci,hsi,hsd,bE hb,cb,bz,cq,e3,gtx,c3',e4,show IntKind.i64.wrap 1=1 from by decide,iNq,zok,rc,Ab,cD,List.flatMap_cons,List.flatMap_nil,az,AV.cells,yal,yak]
    refine ⟨by decide,by decide,by decide,2,by decide,by decide,by simp only [zlf,zkq,zkv];have:=q4.nx;omega,lRq _,hclo 2 _,?_,?_⟩
    ·simp [ltF,znn,znp,znf,znh,cJ,znu,znv,zlf]
     omega
    ·simp [ba,wk2,wk1,wkM,Fr.get]
   ·simp only [go_sem,ky,gText0,gText1,gText2,gText3,bH,hgd,hci,hsi,hsd,bE hb,cb,bz,cq,e3,gtx,c3',e4,show IntKind.i64.wrap 1=1 from by decide,iNq,zok,rc,Ab,cD,List.flatMap_cons,List.flatMap_nil,az,AV.cells,yal,yak]
    refine ⟨by decide,by decide,by decide,3,by decide,by decide,by simp only [zlf,zkq,zkv];have:=q4.nx;omega,lRq _,hclo 3 _,?_,?_⟩
    ·simp [ltF,znn,znp,znf,znh,cJ,znu,znv,zlf]
     omega
    ·simp [ba,wk2,wk1,wkM,Fr.get]
   ·simp only [go_sem,ky,gText0,gText1,gText2,gText3,bH,hgd,hci,hsi,hsd,bE hb,cb,bz,cq,e3,gtx,c3',e4,show IntKind.i64.wrap 1=1 from by decide,iNq,zok,rc,Ab,cD,List.flatMap_cons,List.flatMap_nil,az,AV.cells,yal,yak]
    refine ⟨by decide,by decide,by decide,4,by decide,by decide,by simp only [zlf,zkq,zkv];have:=q4.nx;omega,lRq _,hclo 4 _,?_,?_⟩
    ·simp [ltF,znn,znp,znf,znh,cJ,znu,znv,zlf]
     omega
    ·simp [ba,wk2,wk1,wkM,Fr.get]
  ·have hk4:k=4:=by simp at hc;omega
   subst hk4
   simp only [go_sem]
   have hr:bV 8 4 (rc b v 4)=(cD b v).map az:=kX (by decide) (fun t=>(az t).cells) (fun _=>rfl) (cD b v)
   refine ⟨?_,?_,hcl2 _,aU dp⟩
   ·simp only [wk,wk2,wk1,hci,yap,hr,true_or,true_and]
    rw [zmv (by rw [zlf];exact q1)]
   ·exact ((q4.set _ (.inr q1)).set _ (.inl rfl)).le (hgd _ _)
def mu:=eG fun b v=>(.slice .any 5 ((dc b v).map ax),v+4)
def zx (b:List UInt8) (v:Nat) (r1 r2:Bool):List AV:=((dc b v).map fun a=>(⟨a.id,a.name,a.params,a.body,if a.id=3∧r1=true then [112,111,114,116,32,33,61,32,48] else if a.id=5∧r2=true then [120,32,60,32,121,32,124,124,32,120,32,61,61,32,49,53] else []⟩:SAction)).flatMap fun a=>(ax a).cells
theorem BC {b:List UInt8} {v:Nat}:zx b v (decide (cv b (v+2) 2=1)) (decide (cv b (v+3) 2=1))=(dc b v).flatMap fun a=>(ax a).cells:=by
 by_cases h1:cv b (v+2) 2=1<;>by_cases h2:cv b (v+3) 2=1<;>simp [zx,dc,ax,AV.cells,h1,h2]
theorem tV:EntOk Tryz.prog 21 (Ent.effect mu):=by
 unfold mu
 refine EntOk.effect fun args H K h=>?_
 unfold eG at h
 split at h
 rotate_left
 ·exact h.elim
 rename_i id
 obtain ⟨b,v,hg,hb,hv,hK⟩:=kq h
 refine ⟨_,_,hK,?_⟩
 clear hK
 dsimp only
 generalize hres:AV.slice .any 5 ((dc b v).map ax)=res
 refine ACalls.fW ak (tCq i5 (tCq jC tNq)) Tryz.func21 [.tmp 2] (nrq _) (T:=aj [(2,[[],[],[],[],[],[],[],[],[],[],[],[],[],[],[],[],[],[],[],[],[],[],[],[],[],[],[],[],[],[],[],[],[],[29],[29,33],[],[],[],[29,33],[],[6,12,22,29,33]]),(802,[[100002],[100005],[100008],[100011],[100016],[100020],[100026],[100044]]),(1202,[[40]]),(3,[[1]])]) (h:=fun hcl hlt=>?_)
 clear hlt
 have hid:=glq hg
 have hne:=oB hid
 have hne2:=oB (show id<H.nx+1+1+1+1+1+1+1+1+1+1+1+1+1+1+1+1 by omega)
 have hgc:=lc (b:=b) hid
 have hcl2:∀ w,(H.set id (cK b w)).Closed:=fun w=>bb hcl fS
 have e2:(2:Int).toNat=2:=rfl
 have e256:(256:Int).toNat=256:=rfl
 have a22:∀ u,IntKind.i64.wrap (2+((cv b u 2:Nat):Int))=2+((cv b u 2:Nat):Int):=fun u=>by
  have:=gS (b:=b) (v:=u) (n:=2) (by decide)
  rw [wrap_i64 (by omega) (by omega)]
 have u256:∀ u,IntKind.u64.wrap ((cv b u 256:Nat):Int)=((cv b u 256:Nat):Int):=fun u=>by
  have:=gS (b:=b) (v:=u) (n:=256) (by decide)
  rw [jB (by omega) (by omega)]
 simp only [go_sem,bH,bF,hg,hgc,bE hb,cb,bz,cq,hne,hne2,e2,e256,a22,u256]
 (repeat with_reducible refine Yq ?_)
 simp only [aJ,ag,bhq,Nat.reduceMod,Nat.reduceDiv,aC,aB,aD,aT,aE,aS,aP,aQ,aR,yaq,yar,yao,yap,go_sem,bH,bF,hg,hgc,bE hb,cb,bz,cq,hne,hne2,e2,e256,a22,u256]
 refine rB (s:=4) (zx b v false false) rfl (by simp only [go_sem];rfl) ?_ ?_
 ·simp [zx,dc,ax,bv,cl,vc,cp,AV.cells,iF,dY,dX,eK,eJ,fm,iN,iM,il,wkM]
  have:=gS (b:=b) (v:=v+1) (n:=256) (by decide)
  omega
 simp only [aJ,ag,bhq,Nat.reduceMod,Nat.reduceDiv,aC,aB,aD,aT,aE,aS,aP,aQ,aR,yaq,yar,yao,yap,go_sem,bH,bF,hg,hgc,bE hb,cb,bz,cq,hne,hne2,e2,e256,a22,u256]
 refine ah (fun h1=>?_) (fun h1=>?_)
 all_goals
  simp only [aJ,ag,bhq,Nat.reduceMod,Nat.reduceDiv,aC,aB,aD,aT,aE,aS,aP,aQ,aR,yaq,yar,yao,yap,go_sem,bH,bF,hg,hgc,bE hb,cb,bz,cq,hne,hne2,e2,e256,a22,u256,zx,dc,List.flatMap_cons,List.flatMap_nil,ax,AV.cells,yal,yak]
  (repeat with_reducible refine Yq ?_)
  refine ah (fun h2=>?_) (fun h2=>?_)
 all_goals
  try simp only [aJ,ag,bhq,Nat.reduceMod,Nat.reduceDiv,aC,aB,aD,aT,aE,aS,aP,aQ,aR,yaq,yar,yao,yap,go_sem,bH,bF,hg,hgc,bE hb,cb,bz,cq,hne,hne2,e2,e256,a22,u256,zx,dc,List.flatMap_cons,List.flatMap_nil,ax,AV.cells,yal,yak]
  (repeat with_reducible refine Yq ?_)
  have hA:=BC (b:=b) (v:=v)
  rw [show decide (cv b (v+2) 2=1)=_ from h1,show decide (cv b (v+3) 2=1)=_ from h2] at hA
  have hr:=kX (sz:=5) (by decide) (fun t=>(ax t).cells) (fun _=>rfl) (dc b v)
  rw [← hA] at hr
  subst hres
  refine ⟨?_,?_,hcl2 _,aU lI⟩
  ·simp only [wk,wk2,wk1,go_sem,yap,true_or,true_and]
   refine ⟨?_,?_⟩
   ·exact hr.symm
   ·rw [zmv (by (try simp only [zlf]);omega)]
  ·refine But.le (id:=id) ?_ ?_
   ·repeat (first|exact But.self|refine But.push ?_ _|refine But.set ?_ _ (by first|exact .inl rfl|exact .inr (by (try simp only [zle,zlf]);omega)))
   ·simp only [go_sem,hne,hne2,hgc,cp]
end Go.AL
