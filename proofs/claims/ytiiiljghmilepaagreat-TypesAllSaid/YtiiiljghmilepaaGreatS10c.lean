/- Contracts and plain laws, a part of the proof; no condition of its own. -/
import Derived.Test.YtiiiljghmilepaaGreatS10z
import Derived.Test.YtiiiljghmilepaaGreatLVal
import Derived.Test.YtiiiljghmilepaaGreatLSch2
set_option maxHeartbeats 32000000
open List renaming length_cons → yaz, length_nil → yba, take_of_length_le → ybc, drop_append → ybd, take_append → ybe, drop_eq_nil_of_le → ybf, cons_append → yal, nil_append → yak, take_succ_cons → yaq, take_zero → yar, drop_succ_cons → yao, drop_zero → yap, map_cons → yae
open Go Go.AL Go.Proofs
namespace Go.AL
set_option linter.all false
set_option maxRecDepth 10000
theorem CD:ti Tryz.prog 3=some ⟨.int .i64,1,8,.int .i64 0⟩:=by kernel_rfl
theorem y5:ti Tryz.prog 95=some ⟨.struct [(0,3,false),(1,9,false),(2,3,false)],3,32,.agg [.int .i64 0,.str [],.int .i64 0]⟩:=by kernel_rfl
theorem v3:ti Tryz.prog 97=some ⟨.struct [(0,3,false),(1,9,false),(2,51,false)],3,48,.agg [.int .i64 0,.str [],.slice .nil 1 []]⟩:=by kernel_rfl
theorem zp:ti Tryz.prog 244=some ⟨.struct [(0,212,false),(2,212,false),(4,3,false)],5,40,.agg [.int .u64 0,.int .u64 0,.int .u64 0,.int .u64 0,.int .i64 0]⟩:=by kernel_rfl
theorem xV:ti Tryz.prog 119=some ⟨.struct [(0,3,false),(1,3,false),(2,3,false),(3,117,false),(4,3,false)],5,56,.agg [.int .i64 0,.int .i64 0,.int .i64 0,.slice .nil 1 [],.int .i64 0]⟩:=by kernel_rfl
theorem BF:ti Tryz.prog 251=some ⟨.struct [(0,3,false),(1,3,false),(2,249,false)],6,48,.agg [.int .i64 0,.int .i64 0,.int .i64 0,.int .i64 0,.int .u64 0,.int .u64 0]⟩:=by kernel_rfl
theorem ut:ti Tryz.prog 249=some ⟨.struct [(0,3,false),(1,3,false),(2,212,false)],4,32,.agg [.int .i64 0,.int .i64 0,.int .u64 0,.int .u64 0]⟩:=by kernel_rfl
theorem yT:ti Tryz.prog 247=some ⟨.struct [(0,9,false),(1,3,false)],2,24,.agg [.str [],.int .i64 0]⟩:=by kernel_rfl
theorem wa:ti Tryz.prog 58=some ⟨.struct [(0,3,false),(1,9,false),(2,55,false),(3,56,false),(4,9,false)],5,88,.agg [.int .i64 0,.str [],.slice .nil 1 [],.slice .nil 1 [],.str []]⟩:=by kernel_rfl
theorem Cb:ti Tryz.prog 204=some ⟨.struct [(0,9,false),(1,3,false),(2,3,false)],3,32,.agg [.str [],.int .i64 0,.int .i64 0]⟩:=by kernel_rfl
theorem yd:ti Tryz.prog 54=some ⟨.struct [(0,3,false),(1,9,false),(2,50,false),(3,51,false),(4,3,false),(5,52,false),(6,3,false),(7,9,false)],8,128,.agg [.int .i64 0,.str [],.slice .nil 1 [],.slice .nil 1 [],.int .i64 0,.slice .nil 1 [],.int .i64 0,.str []]⟩:=by kernel_rfl
theorem za:ti Tryz.prog 84=some ⟨.struct [(0,3,false),(1,3,false)],2,16,.agg [.int .i64 0,.int .i64 0]⟩:=by kernel_rfl
theorem xH:ti Tryz.prog 169=some ⟨.struct [(0,3,false),(1,4,false),(2,4,false),(3,167,false)],4,40,.agg [.int .i64 0,.bool false,.bool false,.slice .nil 1 []]⟩:=by kernel_rfl
theorem zH:ti Tryz.prog 87=some ⟨.struct [(0,3,false),(1,9,false),(2,85,false),(3,51,false),(4,3,false),(5,4,false)],6,88,.agg [.int .i64 0,.str [],.slice .nil 1 [],.slice .nil 1 [],.int .i64 0,.bool false]⟩:=by kernel_rfl
theorem CE:ti Tryz.prog 90=some ⟨.struct [(0,3,false),(1,3,false),(2,3,false),(3,3,false),(4,3,false),(5,3,false)],6,48,.agg [.int .i64 0,.int .i64 0,.int .i64 0,.int .i64 0,.int .i64 0,.int .i64 0]⟩:=by kernel_rfl
theorem vL:ti Tryz.prog 35=some ⟨.struct [(0,26,false),(1,27,false),(2,28,false),(3,29,false),(4,30,false),(5,31,false),(6,32,false),(7,33,false),(8,3,false),(9,3,false)],10,208,.agg [.slice .nil 1 [],.slice .nil 1 [],.slice .nil 1 [],.slice .nil 1 [],.slice .nil 1 [],.slice .nil 1 [],.slice .nil 1 [],.slice .nil 1 [],.int .i64 0,.int .i64 0]⟩:=by kernel_rfl
theorem yj:ti Tryz.prog 26=some ⟨.slice 95,1,24,.slice .nil 1 []⟩:=by kernel_rfl
theorem wl:ti Tryz.prog 27=some ⟨.slice 97,1,24,.slice .nil 1 []⟩:=by kernel_rfl
theorem Ar:ti Tryz.prog 117=some ⟨.slice 244,1,24,.slice .nil 1 []⟩:=by kernel_rfl
theorem zd:ti Tryz.prog 28=some ⟨.slice 119,1,24,.slice .nil 1 []⟩:=by kernel_rfl
theorem BB:ti Tryz.prog 56=some ⟨.slice 251,1,24,.slice .nil 1 []⟩:=by kernel_rfl
theorem xy:ti Tryz.prog 55=some ⟨.slice 247,1,24,.slice .nil 1 []⟩:=by kernel_rfl
theorem v6:ti Tryz.prog 29=some ⟨.slice 58,1,24,.slice .nil 1 []⟩:=by kernel_rfl
theorem Cf:ti Tryz.prog 50=some ⟨.slice 204,1,24,.slice .nil 1 []⟩:=by kernel_rfl
theorem y9:ti Tryz.prog 30=some ⟨.slice 54,1,24,.slice .nil 1 []⟩:=by kernel_rfl
theorem xN:ti Tryz.prog 31=some ⟨.slice 84,1,24,.slice .nil 1 []⟩:=by kernel_rfl
theorem ya:ti Tryz.prog 85=some ⟨.slice 169,1,24,.slice .nil 1 []⟩:=by kernel_rfl
theorem zY:ti Tryz.prog 32=some ⟨.slice 87,1,24,.slice .nil 1 []⟩:=by kernel_rfl
theorem BU:ti Tryz.prog 33=some ⟨.slice 90,1,24,.slice .nil 1 []⟩:=by kernel_rfl
theorem C3:ti Tryz.prog 52=some ⟨.slice 212,1,24,.slice .nil 1 []⟩:=by kernel_rfl
theorem Ck:ti Tryz.prog 51=some ⟨.slice 3,1,24,.slice .nil 1 []⟩:=by kernel_rfl
theorem Av:ti Tryz.prog 167=some ⟨.slice 4,1,24,.slice .nil 1 []⟩:=by kernel_rfl
attribute [go_sem] CD y5 v3 zp xV BF ut yT wa Cb yd za xH zH CE vL yj wl Ar zd BB xy v6 Cf y9 xN ya zY BU C3 Ck Av
/-- the next choice of two -/
def bv:List AV→AHeap→(AEnd→AHeap→Prop)→Prop
 |[.ptr id 0],H,K=>onC (H.get id) fun b v=>K (.ret (.bool (decide (cv b v 2=1)))) (H.set id (db b (v+1)))
 |_,_,_=>False
theorem i9:EntOk Tryz.prog 42 (Ent.effect bv):=by
 refine EntOk.effect fun args H K h=>?_
 unfold bv at h
 split at h
 rotate_left
 ·exact h.elim
 rename_i id
 obtain ⟨b,v,hg,hb,hv,hK⟩:=jA h
 refine ⟨_,_,hK,?_⟩
 clear hK
 refine ACalls.fW aF (TblOk.cons jb TblOk.nil) Tryz.func42 [.tmp 2] (Nat.le_refl _) (T:=aD []) (h:=fun hcl hlt=>?_)
 clear hlt
 have hid:=AHeap.get_lt hg
 have hcl2:(H.set id (db b (v+1))).Closed:=ai hcl iI
 have e2:(2:Int).toNat=2:=rfl
 simp only [go_sem,bC,hg,bB hb,cp,e2,Nat.add_zero,Nat.min_eq_left hv]
 have e:((((cv b v 2:Nat):Int))==1)=decide (cv b v 2=1):=by rw [Bool.eq_iff_iff];simp;omega
 refine ⟨⟨by decide,by decide⟩,?_⟩
 rw [e]
 simp (disch:=first|assumption|omega|(simp;done)|(simp;omega)|(simp only [bt,and_true];first|done|omega|(simp;done))) [↓zmi,beq,ybc,ybd,ybe,ah,wk,wk2,wk1,wkM,wkL,ap,ybf,hcl2]
theorem oq {id n:Nat} (h:id<n):((id=n)=False)∧((id=n+1)=False)∧((id=n+1+1)=False)∧((id=n+1+1+1)=False)∧((id=n+1+1+1+1)=False)∧((id=n+1+1+1+1+1)=False)∧((id=n+1+1+1+1+1+1)=False)∧((id=n+1+1+1+1+1+1+1)=False)∧((id=n+1+1+1+1+1+1+1+1)=False)∧((id=n+1+1+1+1+1+1+1+1+1)=False)∧((id=n+1+1+1+1+1+1+1+1+1+1)=False)∧((id=n+1+1+1+1+1+1+1+1+1+1+1)=False)∧((id=n+1+1+1+1+1+1+1+1+1+1+1+1)=False)∧((id=n+1+1+1+1+1+1+1+1+1+1+1+1+1)=False)∧((id=n+1+1+1+1+1+1+1+1+1+1+1+1+1+1)=False)∧((id=n+1+1+1+1+1+1+1+1+1+1+1+1+1+1+1)=False) :=
 ⟨eq_false (by omega),eq_false (by omega),eq_false (by omega),eq_false (by omega),eq_false (by omega),eq_false (by omega),eq_false (by omega),eq_false (by omega),eq_false (by omega),eq_false (by omega),eq_false (by omega),eq_false (by omega),eq_false (by omega),eq_false (by omega),eq_false (by omega),eq_false (by omega)⟩
theorem kC {H:AHeap} {id:Nat} (h:id<H.nx) (b:List UInt8) (v:Nat):(H.set id (db b v)).get id=some (db b v):=AHeap.get_set_same _ _ h
theorem gq {b:List UInt8} {v:Nat}:([AV.int .i64 0,.int .i64 0,.int .i64 65535,.int .i64 3].getD (cv b v 4) .junk)=.int .i64 (jZ (cv b v 4)):=by
 have h:=j3 (b:=b) (v:=v) (n:=4) (by decide)
 unfold jZ
 generalize cv b v 4=c at *
 match c,h with
 |0,_=>rfl
 |1,_=>rfl
 |2,_=>rfl
 |3,_=>rfl
theorem bY {α:Type} {n sz:Nat} {f:α→AV} {l:List α} (h:∀ x,AV.lt n (f x)):AV.lt n (.slice .any sz (l.map f)):=nr fun x hx=>by
 obtain ⟨y,_,rfl⟩:=List.mem_map.1 hx
 exact h y
theorem gh {n v:Nat} {l:List AV}:ltL n (vc v++l)=ltL n l:=by simp [vc,zno,zmz]
theorem e9 {n v:Nat}:ltL n (vc v)=True:=by simp [vc,zno,znp,zmz]
theorem wj {n:Nat} {l:List Int}:AV.lt n (.slice .any 1 (inL l)):=bY fun x=>by simp only [zmz]
theorem zO {n:Nat} {l:List Bool}:AV.lt n (.slice .any 1 (boL l)):=bY fun x=>by simp only [zna]
theorem Dw {n:Nat} {l:List Nat}:AV.lt n (.slice .any 2 (l.map vv)):=bY fun x=>by simp only [vv,znl,zno,znp,zmz,and_true]
theorem zZ {n:Nat} (x:SField):AV.lt n (fu x):=by
 simp only [fu,znl,zno,znp,zmz,znb,zna,gh,e9,List.append_assoc,yal,yak,true_and,and_true]
theorem zc {n:Nat} (x:SHeader):AV.lt n (eB x):=by
 simp only [eB,znl,zno,znp,zmz,znb,zna,gh,e9,List.append_assoc,yal,yak,true_and,and_true]
 exact wj
theorem Cc {n:Nat} (x:SCase):AV.lt n (l6 x):=by
 simp only [l6,znl,zno,znp,zmz,znb,zna,gh,e9,List.append_assoc,yal,yak,true_and,and_true]
theorem fZ {n:Nat} (x:SState):AV.lt n (cI x):=by
 simp only [cI,znl,zno,znp,zmz,znb,zna,gh,e9,List.append_assoc,yal,yak,true_and,and_true]
 exact bY Cc
theorem BT {n:Nat} (x:SPrim):AV.lt n (nN x):=by
 simp only [nN,znl,zno,znp,zmz,znb,zna,gh,e9,List.append_assoc,yal,yak,true_and,and_true]
theorem BE {n:Nat} (x:SParam):AV.lt n (cR x):=by
 simp only [cR,znl,zno,znp,zmz,znb,zna,gh,e9,List.append_assoc,yal,yak,true_and,and_true]
theorem li {n:Nat} (x:SAction):AV.lt n (aS x):=by
 simp only [aS,znl,zno,znp,zmz,znb,zna,gh,e9,List.append_assoc,yal,yak,true_and,and_true]
 exact ⟨bY BE,bY BT⟩
theorem DL {n:Nat} (x:SKey):AV.lt n (dh x):=by
 simp only [dh,znl,zno,znp,zmz,znb,zna,gh,e9,List.append_assoc,yal,yak,true_and,and_true]
theorem da {n:Nat} (x:STable):AV.lt n (aU x):=by
 simp only [aU,znl,zno,znp,zmz,znb,zna,gh,e9,List.append_assoc,yal,yak,true_and,and_true]
 exact ⟨bY DL,wj,Dw⟩
theorem z9 {n:Nat} (x:SStage):AV.lt n (fm x):=by
 simp only [fm,znl,zno,znp,zmz,znb,zna,gh,e9,List.append_assoc,yal,yak,true_and,and_true]
theorem nk {n:Nat} (x:SGrant):AV.lt n (cQ x):=by
 simp only [cQ,znl,zno,znp,zmz,znb,zna,gh,e9,List.append_assoc,yal,yak,true_and,and_true]
 exact zO
theorem wL {n:Nat} (x:SRole):AV.lt n (fh x):=by
 simp only [fh,znl,zno,znp,zmz,znb,zna,gh,e9,List.append_assoc,yal,yak,true_and,and_true]
 exact ⟨bY nk,wj⟩
theorem DT {n:Nat} (x:SRef):AV.lt n (jX x):=by
 simp only [jX,znl,zno,znp,zmz,znb,zna,gh,e9,List.append_assoc,yal,yak,true_and,and_true]
theorem A8 {n:Nat} (x:Sch):AV.lt n (n8 x):=by
 simp only [n8,sy,znl,zno,znp,zmz,true_and,and_true]
 exact ⟨bY zZ,bY zc,bY fZ,bY li,bY da,bY z9,bY wL,bY DT⟩
theorem Dc {b:List UInt8} {u n:Nat} (h:0<n):(0≤((cv b u n:Nat):Int)∧((cv b u n:Nat):Int)<(n:Int))=True:=eq_true ⟨by omega,by have:=j3 (b:=b) (v:=u) h;omega⟩
/-- a function that takes from the choices -/
def eG (g:List UInt8→Nat→AV × Nat):List AV→AHeap→(AEnd→AHeap→Prop)→Prop
 |[.ptr id 0],H,K=>onC (H.get id) fun b v=>K (.ret (g b v).1) (H.set id (db b (g b v).2))
 |_,_,_=>False
def nU:=eG fun b v=>(.slice .any 5 ((bK b v).1.map cI),(bK b v).2)
theorem wu:EntOk Tryz.prog 38 (Ent.effect nU):=by
 unfold nU
 refine EntOk.effect fun args H K h=>?_
 unfold eG at h
 split at h
 rotate_left
 ·exact h.elim
 rename_i id
 obtain ⟨b,v,hg,hb,hv,hK⟩:=jA h
 refine ⟨_,_,hK,?_⟩
 clear hK
 refine ACalls.fW aF (TblOk.cons jb (TblOk.cons i9 TblOk.nil)) Tryz.func38 [.tmp 2] (Nat.le_refl _) (T:=aD [(5,[[],[],[],[],[],[3],[],[],[],[],[3],[],[3,10],[],[3,10,12],[1,3,10,12],[],[1,3,10,12]]),(10,[[16]])]) (h:=fun hcl hlt=>?_)
 clear hlt
 have hid:=AHeap.get_lt hg
 have hne:=oq hid
 have hgc:=kC (b:=b) hid
 have hcl2:∀ w,(H.set id (db b w)).Closed:=fun w=>ai hcl iI
 have c4:∀ u,(0≤((cv b u 4:Nat):Int)∧((cv b u 4:Nat):Int)<((4:Nat):Int))=True:=fun u=>Dc (by decide)
 simp only [go_sem,bC,bv,hg,hgc,bB hb,bR,bk,cd,hne,gq,c4,Int.toNat_natCast]
 have w8:∀ u,IntKind.u64.wrap (IntKind.i64.wrap (8*((cv b u 2:Nat):Int)))=((8*cv b u 2:Nat):Int):=fun u=>by
  have:=j3 (b:=b) (v:=u) (n:=2) (by decide)
  rw [wrap_i64 (by omega) (by omega),mD (by omega) (by omega)];omega
 have w1:∀ u,IntKind.i64.wrap (1+((cv b u 3:Nat):Int))=1+((cv b u 3:Nat):Int):=fun u=>by
  have:=j3 (b:=b) (v:=u) (n:=3) (by decide)
  rw [wrap_i64 (by omega) (by omega)]
 have hvs:∀ u,vc (8*cv b u 2)=[.int .u64 0,.int .u64 ((8*cv b u 2:Nat):Int)]:=fun u=>kl (by
  have:=j3 (b:=b) (v:=u) (n:=2) (by decide)
  omega)
 refine ⟨by decide,aj (fun h1=>?_) (fun h1=>?_)⟩
 ·have h1':cv b (v+1) 2=1:=of_decide_eq_true h1
  simp only [dl,dj,bhq,Nat.reduceMod,Nat.reduceDiv,bG,bH,bI,cD,bJ,cz,cE,cr,ct,yaq,yar,yao,yap,go_sem,bC,bv,hg,hgc,bB hb,bR,bk,cd,hne,gq,c4,w8,w1,Int.toNat_natCast]
  refine ⟨by decide,by decide,⟨by simp [zik,zgl,zgm,zgn],by decide,by decide,aj (fun h2=>?_) (fun h2=>?_)⟩⟩
  ·have h2':cv b (v+5) 3=1:=by simp [cp] at h2;omega
   simp only [dl,dj,bhq,Nat.reduceMod,Nat.reduceDiv,bG,bH,bI,cD,bJ,cz,cE,cr,ct,yaq,yar,yao,yap,go_sem,bC,bv,hg,hgc,bB hb,bR,bk,cd,hne,gq,c4,w8,w1,Int.toNat_natCast]
   refine ⟨by decide,?_⟩
   refine gg 2 (.slice .any 5 ((bK b v).1.map cI)) ?_ ?_
   ·simp [Fr.get,bK,h1',h2',cI,l6,kl,cp,hvs,iS,eZ,fa,fO,e7,fY,iG,gY,gF,wkM,zik]
   ·have e:(bK b v).2=cp v 7:=by unfold bK;simp only [h1',h2',if_true,if_false];rfl
    rw [e]
    simp only [go_sem,bhq,Nat.reduceMod,Nat.reduceDiv,bG,bH,bI,cD,bJ,cz,cE,cr,ct,yaq,yar,yao,yap]
    simp (disch:=first|assumption|omega|(simp;done)|(simp;omega)|(simp only [bt,and_true];first|done|omega|(simp;done))) [↓zmi,beq,ybc,ybd,ybe,ah,wk,wk2,wk1,wkM,wkL,ap,ybf,hcl2]
    first|exact bY fZ|exact ⟨by repeat first|exact .refl _|refine .push ?_ _,bY fZ⟩
  ·have h2':¬ cv b (v+5) 3=1:=by simp [cp] at h2;omega
   simp only [dl,dj,bhq,Nat.reduceMod,Nat.reduceDiv,bG,bH,bI,cD,bJ,cz,cE,cr,ct,yaq,yar,yao,yap,go_sem,bC,bv,hg,hgc,bB hb,bR,bk,cd,hne,gq,c4,w8,w1,Int.toNat_natCast]
   refine gg 2 (.slice .any 5 ((bK b v).1.map cI)) ?_ ?_
   ·simp [Fr.get,bK,h1',h2',cI,l6,kl,cp,hvs,iS,eZ,fa,fO,e7,fY,iG,gY,gF,wkM,zik]
   ·have e:(bK b v).2=cp v 6:=by unfold bK;simp only [h1',h2',if_true,if_false];rfl
    rw [e]
    simp only [go_sem,bhq,Nat.reduceMod,Nat.reduceDiv,bG,bH,bI,cD,bJ,cz,cE,cr,ct,yaq,yar,yao,yap]
    simp (disch:=first|assumption|omega|(simp;done)|(simp;omega)|(simp only [bt,and_true];first|done|omega|(simp;done))) [↓zmi,beq,ybc,ybd,ybe,ah,wk,wk2,wk1,wkM,wkL,ap,ybf,hcl2]
    first|exact bY fZ|exact ⟨by repeat first|exact .refl _|refine .push ?_ _,bY fZ⟩
 ·have h1':¬ cv b (v+1) 2=1:=of_decide_eq_false h1
  simp only [dl,dj,bhq,Nat.reduceMod,Nat.reduceDiv,bG,bH,bI,cD,bJ,cz,cE,cr,ct,yaq,yar,yao,yap,go_sem,bC,bv,hg,hgc,bB hb,bR,bk,cd,hne,gq,c4,w8,w1,Int.toNat_natCast]
  refine ⟨by decide,by decide,aj (fun h2=>?_) (fun h2=>?_)⟩
  ·have h2':cv b (v+3) 3=1:=by simp [cp] at h2;omega
   simp only [dl,dj,bhq,Nat.reduceMod,Nat.reduceDiv,bG,bH,bI,cD,bJ,cz,cE,cr,ct,yaq,yar,yao,yap,go_sem,bC,bv,hg,hgc,bB hb,bR,bk,cd,hne,gq,c4,w8,w1,Int.toNat_natCast]
   refine ⟨by decide,?_⟩
   refine gg 2 (.slice .any 5 ((bK b v).1.map cI)) ?_ ?_
   ·simp [Fr.get,bK,h1',h2',cI,l6,kl,cp,hvs,iS,eZ,fa,fO,e7,fY,iG,gY,gF,wkM,zik]
   ·have e:(bK b v).2=cp v 5:=by unfold bK;simp only [h1',h2',if_true,if_false];rfl
    rw [e]
    simp only [go_sem,bhq,Nat.reduceMod,Nat.reduceDiv,bG,bH,bI,cD,bJ,cz,cE,cr,ct,yaq,yar,yao,yap]
    simp (disch:=first|assumption|omega|(simp;done)|(simp;omega)|(simp only [bt,and_true];first|done|omega|(simp;done))) [↓zmi,beq,ybc,ybd,ybe,ah,wk,wk2,wk1,wkM,wkL,ap,ybf,hcl2]
    first|exact bY fZ|exact ⟨by repeat first|exact .refl _|refine .push ?_ _,bY fZ⟩
  ·have h2':¬ cv b (v+3) 3=1:=by simp [cp] at h2;omega
   simp only [dl,dj,bhq,Nat.reduceMod,Nat.reduceDiv,bG,bH,bI,cD,bJ,cz,cE,cr,ct,yaq,yar,yao,yap,go_sem,bC,bv,hg,hgc,bB hb,bR,bk,cd,hne,gq,c4,w8,w1,Int.toNat_natCast]
   refine gg 2 (.slice .any 5 ((bK b v).1.map cI)) ?_ ?_
   ·simp [Fr.get,bK,h1',h2',cI,l6,kl,cp,hvs,iS,eZ,fa,fO,e7,fY,iG,gY,gF,wkM,zik]
   ·have e:(bK b v).2=cp v 4:=by unfold bK;simp only [h1',h2',if_true,if_false];rfl
    rw [e]
    simp only [go_sem,bhq,Nat.reduceMod,Nat.reduceDiv,bG,bH,bI,cD,bJ,cz,cE,cr,ct,yaq,yar,yao,yap]
    simp (disch:=first|assumption|omega|(simp;done)|(simp;omega)|(simp only [bt,and_true];first|done|omega|(simp;done))) [↓zmi,beq,ybc,ybd,ybe,ah,wk,wk2,wk1,wkM,wkL,ap,ybf,hcl2]
    first|exact bY fZ|exact ⟨by repeat first|exact .refl _|refine .push ?_ _,bY fZ⟩
end Go.AL
open Go Go.AL Go.Proofs
namespace Go.AL
set_option linter.all false
set_option maxRecDepth 10000
theorem wv:ti Tryz.prog 49=some ⟨.slice 9,1,24,.slice .nil 1 []⟩:=by kernel_rfl
theorem uh:ti Tryz.prog 253=some ⟨.slice 49,1,24,.slice .nil 1 []⟩:=by kernel_rfl
attribute [go_sem] wv uh
/-- a proof that serves several ways into the same place -/
def JnT {α:Type} (F:α→Fr) (G:α→AHeap) (I:α→Prop) (K:Fr→AHeap→Prop):Prop:=∀ x,I x→K (F x) (G x)
theorem AQ {α:Type} (F:α→Fr) (G:α→AHeap) (I:α→Prop) {K:Fr→AHeap→Prop} {C:Prop} (h:JnT F G I K→C) (hJ:JnT F G I K):C:=h hJ
theorem vJ {F:Nat × AHeap→Fr} {I:Nat × AHeap→Prop} {n0 s id off sz len:Nat} {K:Fr→AHeap→Prop} {fr:Fr} {H:AHeap} (J:JnT F (fun x=>x.2) (fun x=>x.2.Closed∧I x) K) (hs:Fr.get fr s=.ms id off sz len) (hc:H.Closed) (hx:I (id,H)) (hn:n0≤H.nx) (hl:ltF H.nx (F (id,H))) (hw:aR H H (F (id,H)) fr):ik n0 K fr H:=rM _ _ ⟨hn,AHeap.Le.refl _,hc,hl,hw⟩ (J _ ⟨hc,hx⟩)
theorem r4 {n0 s id off sz len:Nat} {K:Fr→AHeap→Prop} {fr:Fr} {H:AHeap} {cs:List AV} (cs':List AV) (hs:Fr.get fr s=.ms id off sz len) (hc:aB H id=some cs) (h:j8 cs cs') (hk:K fr (H.set id (.cells cs'))):ik n0 K fr H:=Bc id cs' hc h hk
/-- nothing but one object was changed -/
structure But (id:Nat) (H Hc:AHeap):Prop where
 nx:H.nx≤Hc.nx
 get:∀ j x,j≠id→H.get j=some x→Hc.get j=some x
theorem But.push {id:Nat} {H Hc:AHeap} (h:But id H Hc) (o:AObj):But id H (Hc.push o):=⟨by rw [zky];exact Nat.le_succ_of_le h.nx,fun j x hj hx=>by
 have:=h.get j x hj hx
 rw [AHeap.get_push_lt _ _ (AHeap.get_lt this)];exact this⟩
theorem But.set {id i:Nat} {H Hc:AHeap} (h:But id H Hc) (o:AObj) (hi:i=id∨H.nx≤i):But id H (Hc.set i o):=⟨by rw [zkz];exact h.nx,fun j x hj hx=>by
 have hlt:=AHeap.get_lt hx
 rw [AHeap.get_set_ne _ _ (by rcases hi with rfl|hi<;>omega)]
 exact h.get j x hj hx⟩
theorem But.del {id i:Nat} {H Hc:AHeap} (h:But id H Hc) (hi:H.nx≤i):But id H (Hc.del i):=⟨by rw [gC];exact h.nx,fun j x hj hx=>by
 have hlt:=AHeap.get_lt hx
 rw [gW,if_neg (by omega)]
 exact h.get j x hj hx⟩
theorem But.self {id:Nat} {H:AHeap}:But id H H:=⟨Nat.le_refl _,fun _ _ _ h=>h⟩
theorem But.le {id:Nat} {H Hc:AHeap} {o:AObj} (h:But id H Hc) (hg:Hc.get id=some o):(H.set id o).Le Hc:=Ci h.get hg h.nx
theorem rF {H:AHeap} {i j:Nat} {o o':AObj} (h:i≠j):(H.set i o).set j o'=(H.set j o').set i o:=by
 simp only [AHeap.set,AHeap.mk.injEq,true_and]
 funext k
 by_cases h1:k=i
 ·subst h1;simp [h]
 ·simp [h1]
theorem Ay {H:AHeap} {i:Nat} {o o':AObj}:(H.set i o).set i o'=H.set i o':=by
 simp only [AHeap.set,AHeap.mk.injEq,true_and]
 funext k
 by_cases h1:k=i<;>simp [h1]
/-- the tables; the first k have their restrictions -/
def yV (b:List UInt8) (v k:Nat):List STable:=(cf b v).take k++((cf b v).drop k).map fun t=>{ t with restr:=[] }
def qt (b:List UInt8) (v k:Nat):List AV:=(yV b v k).flatMap fun t=>(aU t).cells
theorem u5 {α:Type} {n:Nat} {f:α→AV} {l:List α} (h:∀ x,AV.lt n (f x)):ltL n (l.flatMap fun x=>(f x).cells):=ltL_iff.2 fun j hj=>by
 obtain ⟨x,_,hx⟩:=List.mem_flatMap.1 (List.getElem_mem hj)
 obtain ⟨k,hk,e⟩:=List.mem_iff_getElem.1 hx
 rw [← e];exact AV.lt_cells (h x) k hk
theorem kR {α:Type} {sz:Nat} (h1:sz≠1) (f:α→List AV) (hf:∀ x,(f x).length=sz):∀ l:List α,br sz l.length (l.flatMap f)=l.map fun x=>.agg (f x)
 |[]=>rfl
 |x::l=>by
  rw [yaz,List.flatMap_cons,br,if_neg h1,yae,show (f x++l.flatMap f).drop sz=l.flatMap f by rw [← hf x,List.drop_left],kR h1 f hf l]
  congr 2
  apply List.ext_getElem
  ·simp [hf]
  ·intro j a1 a2
   simp only [List.getElem_map,List.getElem_range]
   rw [List.getD_eq_getElem?_getD,List.getElem?_append_left a2,List.getElem?_eq_getElem a2];rfl
def j0:AV:=.slice .any 1 [.slice .any 1 (gText0.map .str),.slice .any 1 (gText1.map .str),.slice .any 1 (gText2.map .str),.slice .any 1 (gText3.map .str)]
def nt:=eG fun b v=>(.slice .any 8 ((cf b v).map aU),v+12)
theorem vE:EntOk Tryz.prog 40 (Ent.effect nt):=by
 unfold nt
 refine EntOk.effect fun args H K h=>?_
 unfold eG at h
 split at h
 rotate_left
 ·exact h.elim
 rename_i id
 obtain ⟨b,v,hg,hb,hv,hK⟩:=jA h
 refine ⟨_,_,hK,?_⟩
 clear hK
 refine ACalls.fW aF (TblOk.cons jb (TblOk.cons i9 TblOk.nil)) Tryz.func40 [.tmp 2] (Nat.le_refl _) (T:=aD [(16,[[],[],[],[],[],[],[],[],[],[7],[],[],[5,7,9]]),(11,[[14]]),(13,[[1,1,1]])]) (h:=fun hcl hlt=>?_)
 clear hlt
 have hid:=AHeap.get_lt hg
 have hne:=oq hid
 have hne2:=oq (show id<H.nx+1+1+1+1+1+1+1+1+1+1+1+1+1+1+1+1 by omega)
 have hgc:=kC (b:=b) hid
 have hcl2:∀ w,(H.set id (db b w)).Closed:=fun w=>ai hcl iI
 have c3:∀ u,(0≤((cv b u 3:Nat):Int)∧((cv b u 3:Nat):Int)<((3:Nat):Int))=True:=fun u=>Dc (by decide)
 have w1:∀ (u n:Nat) (k:Int),0<n→n≤100→0≤k→k≤100→IntKind.i64.wrap (k+((cv b u n:Nat):Int))=k+((cv b u n:Nat):Int):=fun u n k h1 h2 h3 h4=>by
  have:=j3 (b:=b) (v:=u) (n:=n) h1
  rw [wrap_i64 (by omega) (by omega)]
 have e2:(2:Int).toNat=2:=rfl
 have e5:(5:Int).toNat=5:=rfl
 have e6:(6:Int).toNat=6:=rfl
 have e3:(3:Int).toNat=3:=rfl
 have a12:∀ u,IntKind.i64.wrap (1+((cv b u 2:Nat):Int))=1+((cv b u 2:Nat):Int):=fun u=>w1 u 2 1 (by decide) (by decide) (by decide) (by decide)
 have a25:∀ u,IntKind.i64.wrap (2+((cv b u 5:Nat):Int))=2+((cv b u 5:Nat):Int):=fun u=>w1 u 5 2 (by decide) (by decide) (by decide) (by decide)
 have a36:∀ u,IntKind.i64.wrap (3+((cv b u 6:Nat):Int))=3+((cv b u 6:Nat):Int):=fun u=>w1 u 6 3 (by decide) (by decide) (by decide) (by decide)
 have a46:∀ u,IntKind.i64.wrap (4+((cv b u 6:Nat):Int))=4+((cv b u 6:Nat):Int):=fun u=>w1 u 6 4 (by decide) (by decide) (by decide) (by decide)
 have a35:∀ u,IntKind.i64.wrap (3+((cv b u 5:Nat):Int))=3+((cv b u 5:Nat):Int):=fun u=>w1 u 5 3 (by decide) (by decide) (by decide) (by decide)
 simp only [go_sem,bC,bv,hg,hgc,bB hb,bR,bk,cd,hne,e2,e3,e5,e6,a12,a25,a36,a46,a35]
 apply AQ (α:=Nat × AHeap) (fun x=>[(0,.ptr id 0),(7,.ms x.1 0 8 4),(8,j0)]) (fun x=>x.2) (fun x=>x.2.Closed∧H.nx≤x.1∧x.1<x.2.nx∧But id H x.2∧x.2.get id=some (db b (cp v 8))∧x.2.get x.1=some (.cells (qt b v 0)))
 ·intro J
  (repeat with_reducible refine And.intro (by first|exact True.intro|decide|omega|(simp [zik,zgl,zgm,zgn,zgp,zgo,zgt];first|done|omega)) ?_)
  refine aj (fun h1=>?_) (fun h1=>?_)
  all_goals
   simp only [dl,dj,bhq,Nat.reduceMod,Nat.reduceDiv,bG,bH,bI,cD,bJ,cz,cE,cr,ct,yaq,yar,yao,yap,go_sem,bC,bv,hg,hgc,bB hb,bR,bk,cd,hne,e2,e3,e5,e6,a12,a25,a36,a46,a35]
   (repeat with_reducible refine And.intro (by first|exact True.intro|decide|omega|(simp [zik,zgl,zgm,zgn,zgp,zgo,zgt];first|done|omega)) ?_)
   refine aj (fun h2=>?_) (fun h2=>?_)
  all_goals
   simp only [dl,dj,bhq,Nat.reduceMod,Nat.reduceDiv,bG,bH,bI,cD,bJ,cz,cE,cr,ct,yaq,yar,yao,yap,go_sem,bC,bv,hg,hgc,bB hb,bR,bk,cd,hne,e2,e3,e5,e6,a12,a25,a36,a46,a35]
   (repeat with_reducible refine And.intro (by first|exact True.intro|decide|omega|(simp [zik,zgl,zgm,zgn,zgp,zgo,zgt];first|done|omega)) ?_)
   refine aj (fun h3=>?_) (fun h3=>?_)
  all_goals
   simp only [dl,dj,bhq,Nat.reduceMod,Nat.reduceDiv,bG,bH,bI,cD,bJ,cz,cE,cr,ct,yaq,yar,yao,yap,go_sem,bC,bv,hg,hgc,bB hb,bR,bk,cd,hne,e2,e3,e5,e6,a12,a25,a36,a46,a35]
   (repeat with_reducible refine And.intro (by first|exact True.intro|decide|omega|(simp [zik,zgl,zgm,zgn,zgp,zgo,zgt];first|done|omega)) ?_)
   refine r4 (s:=7) (qt b v 0) rfl (by simp only [go_sem];rfl) ?_ ?_
   ·first|replace h1:=of_decide_eq_true h1|replace h1:=of_decide_eq_false h1
    first|replace h2:=of_decide_eq_true h2|replace h2:=of_decide_eq_false h2
    first|replace h3:=of_decide_eq_true h3|replace h3:=of_decide_eq_false h3
    simp only [cp] at h1 h2 h3
    simp [qt,yV,cf,jK,mG,ef,ei,aU,dh,inL,vv,h1,h2,h3,cp,AV.cells,iS,eZ,fa,fO,e7,fY,iG,gY,gF,wkM]
   refine gg 8 j0 ?_ ?_
   ·simp [Fr.get,j0,gText0,gText1,gText2,gText3,AV.cells,eZ,fa,fO,e7,fY,gY,wkM]
   refine vJ (s:=7) J rfl ?_ ?_ (by (try simp only [zkp,zkk,ni,zky,zkz]);omega) ?_ ?_
   ·repeat' (first|exact hcl2 _|refine af ?_|refine ai ?_ ?_|refine ae ?_ ?_)
    all_goals first|exact u5 fun _=>da _|(simp [bf,zno,znp,zmz,znb,zna,znl,AV.cells,yal,yak,zky,zkz];try omega)
   ·dsimp only
    refine ⟨by (try simp only [zky,zkz]);omega,by (try simp only [zky,zkz]);omega,?_,?_,?_⟩
    ·repeat (first|exact But.self|refine But.push ?_ _|refine But.set ?_ _ (by first|exact .inl rfl|exact .inr (by (try simp only [zky,zkz]);omega)))
    ·simp only [go_sem,hne,hne2,hgc,cp]
    ·simp only [go_sem]
   ·simp [ltF,znh,znj,j0,gText0,gText1,gText2,gText3,znb,bf,zno,znp,zky,zkz]
    try omega
   ·simp [aR,wk2,wk1,wkM,Fr.get,j0]
 ·rintro ⟨i,Hc⟩ ⟨q3,q1,q2,q4,q5,q6⟩
  dsimp only at q1 q2 q3 q4 q5 q6 ⊢
  have hii:i≠id:=by omega
  have gtx:∀ u x y z,([AV.str x,.str y,.str z]:List AV).getD (cv b u 3) .junk=.str ([x,y,z].getD (cv b u 3) []):=fun u x y z=>by
   have:=j3 (b:=b) (v:=u) (n:=3) (by decide)
   rcases (by omega:cv b u 3=0∨cv b u 3=1∨cv b u 3=2) with e|e|e<;>rw [e]<;>rfl
  have hic:id<Hc.nx:=AHeap.get_lt q5
  have hci:∀ C w,aB ((Hc.set i (.cells C)).set id (db b w)) i=some C:=fun C w=>bE (by
   rw [AHeap.get_set_ne _ _ hii,AHeap.get_set_same _ _ q2])
  have hgd:∀ C w,((Hc.set i (.cells C)).set id (db b w)).get id=some (db b w):=fun C w=>AHeap.get_set_same _ _ (by rw [zkz];exact hic)
  have hsi:∀ C C' w,((Hc.set i (.cells C)).set id (db b w)).set i (.cells C')=(Hc.set i (.cells C')).set id (db b w):=fun C C' w=>by
   rw [← rF hii,Ay,rF hii]
  have hsd:∀ C w w',((Hc.set i (.cells C)).set id (db b w)).set id (db b w')=(Hc.set i (.cells C)).set id (db b w'):=fun C w w'=>yD
  have hclo:∀ k w,((Hc.set i (.cells (qt b v k))).set id (db b w)).Closed:=fun k w=>ai (ai q3 (u5 fun _=>da _)) iI
  simp only [bhq,Nat.reduceMod,Nat.reduceDiv,bG,bH,bI,cD,bJ,cz,cE,cr,ct,yaq,yar,yao,yap,go_sem]
  refine av (A:=Nat) (fun k=>[(0,.ptr id 0),(7,.ms i 0 8 4),(8,j0),(80,.int .i64 4),(81,.int .i64 (k:Int))]) (fun k=>(Hc.set i (.cells (qt b v k))).set id (db b (cp v (8+k)))) (fun k=>k≤4) (fun k=>4 - k) 0 (by omega) ?_ fun k hk=>?_
  ·refine ⟨by simp only [zkz,zkk,zkp];have:=q4.nx;omega,?_,hclo _ _,?_,?_⟩
   ·exact ((jI (by rw [AHeap.get_set_ne _ _ (fun e=>hii e.symm)];exact q5)).trans (jI q6))
   ·simp [ltF,znh,znj,zmz,j0,gText0,gText1,gText2,gText3,znb,bf,zno,znp,zkz]
    omega
   ·simp [aR,wk2,wk1,wkM,Fr.get,j0]
  simp only [go_sem]
  refine aj (fun hc=>?_) (fun hc=>?_)
  ·have hk4:k<4:=by simp at hc;omega
   have c3':∀ u,(0≤((cv b u 3:Nat):Int)∧((cv b u 3:Nat):Int)<((3:Nat):Int)):=fun u=>of_eq_true (c3 u)
   have e4:IntKind.i64.wrap ((k:Int)+1)=((k+1:Nat):Int):=by rw [wrap_i64]<;>omega
   rcases (by omega:k=0∨k=1∨k=2∨k=3) with rfl|rfl|rfl|rfl
   ·simp only [go_sem,j0,gText0,gText1,gText2,gText3,bC,hgd,hci,hsi,hsd,bB hb,bR,bk,cd,e3,gtx,c3',e4,show IntKind.i64.wrap 1=1 from by decide,Int.toNat_natCast,zoe,qt,yV,cf,List.flatMap_cons,List.flatMap_nil,aU,AV.cells,yal,yak]
    refine ⟨by decide,by decide,by decide,1,by decide,by decide,by simp only [zkz,zkk,zkp];have:=q4.nx;omega,AHeap.Le.refl _,hclo 1 _,?_,?_⟩
    ·simp [ltF,znh,znj,zmz,znb,bf,zno,znp,zkz]
     omega
    ·simp [aR,wk2,wk1,wkM,Fr.get]
   ·simp only [go_sem,j0,gText0,gText1,gText2,gText3,bC,hgd,hci,hsi,hsd,bB hb,bR,bk,cd,e3,gtx,c3',e4,show IntKind.i64.wrap 1=1 from by decide,Int.toNat_natCast,zoe,qt,yV,cf,List.flatMap_cons,List.flatMap_nil,aU,AV.cells,yal,yak]
    refine ⟨by decide,by decide,by decide,2,by decide,by decide,by simp only [zkz,zkk,zkp];have:=q4.nx;omega,AHeap.Le.refl _,hclo 2 _,?_,?_⟩
    ·simp [ltF,znh,znj,zmz,znb,bf,zno,znp,zkz]
     omega
    ·simp [aR,wk2,wk1,wkM,Fr.get]
   ·simp only [go_sem,j0,gText0,gText1,gText2,gText3,bC,hgd,hci,hsi,hsd,bB hb,bR,bk,cd,e3,gtx,c3',e4,show IntKind.i64.wrap 1=1 from by decide,Int.toNat_natCast,zoe,qt,yV,cf,List.flatMap_cons,List.flatMap_nil,aU,AV.cells,yal,yak]
    refine ⟨by decide,by decide,by decide,3,by decide,by decide,by simp only [zkz,zkk,zkp];have:=q4.nx;omega,AHeap.Le.refl _,hclo 3 _,?_,?_⟩
    ·simp [ltF,znh,znj,zmz,znb,bf,zno,znp,zkz]
     omega
    ·simp [aR,wk2,wk1,wkM,Fr.get]
   ·simp only [go_sem,j0,gText0,gText1,gText2,gText3,bC,hgd,hci,hsi,hsd,bB hb,bR,bk,cd,e3,gtx,c3',e4,show IntKind.i64.wrap 1=1 from by decide,Int.toNat_natCast,zoe,qt,yV,cf,List.flatMap_cons,List.flatMap_nil,aU,AV.cells,yal,yak]
    refine ⟨by decide,by decide,by decide,4,by decide,by decide,by simp only [zkz,zkk,zkp];have:=q4.nx;omega,AHeap.Le.refl _,hclo 4 _,?_,?_⟩
    ·simp [ltF,znh,znj,zmz,znb,bf,zno,znp,zkz]
     omega
    ·simp [aR,wk2,wk1,wkM,Fr.get]
  ·have hk4:k=4:=by simp at hc;omega
   subst hk4
   simp only [go_sem]
   have hr:br 8 4 (qt b v 4)=(cf b v).map aU:=kR (by decide) (fun t=>(aU t).cells) (fun _=>rfl) (cf b v)
   refine ⟨?_,?_,hcl2 _,bY da⟩
   ·simp only [wk,wk2,wk1,hci,yap,hr,true_or,true_and]
    rw [zmp (by rw [zkz];exact q1)]
   ·exact ((q4.set _ (.inr q1)).set _ (.inl rfl)).le (hgd _ _)
end Go.AL
open Go Go.AL Go.Proofs
namespace Go.AL
set_option linter.all false
set_option maxRecDepth 10000
def mf:=eG fun b v=>(.slice .any 5 ((cl b v).map aS),v+4)
/-- the actions; a restriction where it is set -/
def xO (b:List UInt8) (v:Nat) (r1 r2:Bool):List AV:=((cl b v).map fun a=>(⟨a.id,a.name,a.params,a.body,if a.id=3∧r1=true then [112,111,114,116,32,33,61,32,48] else if a.id=5∧r2=true then [120,32,60,32,121,32,124,124,32,120,32,61,61,32,49,53] else []⟩:SAction)).flatMap fun a=>(aS a).cells
theorem zD {b:List UInt8} {v:Nat}:xO b v (decide (cv b (v+2) 2=1)) (decide (cv b (v+3) 2=1))=(cl b v).flatMap fun a=>(aS a).cells:=by
 by_cases h1:cv b (v+2) 2=1<;>by_cases h2:cv b (v+3) 2=1<;>simp [xO,cl,aS,AV.cells,h1,h2]
theorem uT:EntOk Tryz.prog 39 (Ent.effect mf):=by
 unfold mf
 refine EntOk.effect fun args H K h=>?_
 unfold eG at h
 split at h
 rotate_left
 ·exact h.elim
 rename_i id
 obtain ⟨b,v,hg,hb,hv,hK⟩:=jA h
 refine ⟨_,_,hK,?_⟩
 clear hK
 dsimp only
 generalize hres:AV.slice .any 5 ((cl b v).map aS)=res
 refine ACalls.fW aF (TblOk.cons jb (TblOk.cons i9 TblOk.nil)) Tryz.func39 [.tmp 2] (Nat.le_refl _) (T:=aD [(2,[[],[],[],[],[],[],[],[],[],[],[],[],[],[],[],[],[],[],[],[],[],[],[],[],[],[],[],[],[],[],[],[],[],[29],[29,33],[],[],[],[29,33],[],[6,12,22,29,33]]),(802,[[100002],[100005],[100008],[100011],[100016],[100020],[100026],[100044]]),(1202,[[40]]),(3,[[1]])]) (h:=fun hcl hlt=>?_)
 clear hlt
 have hid:=AHeap.get_lt hg
 have hne:=oq hid
 have hne2:=oq (show id<H.nx+1+1+1+1+1+1+1+1+1+1+1+1+1+1+1+1 by omega)
 have hgc:=kC (b:=b) hid
 have hcl2:∀ w,(H.set id (db b w)).Closed:=fun w=>ai hcl iI
 have e2:(2:Int).toNat=2:=rfl
 have e256:(256:Int).toNat=256:=rfl
 have a22:∀ u,IntKind.i64.wrap (2+((cv b u 2:Nat):Int))=2+((cv b u 2:Nat):Int):=fun u=>by
  have:=j3 (b:=b) (v:=u) (n:=2) (by decide)
  rw [wrap_i64 (by omega) (by omega)]
 have u256:∀ u,IntKind.u64.wrap ((cv b u 256:Nat):Int)=((cv b u 256:Nat):Int):=fun u=>by
  have:=j3 (b:=b) (v:=u) (n:=256) (by decide)
  rw [mD (by omega) (by omega)]
 simp only [go_sem,bC,bv,hg,hgc,bB hb,bR,bk,cd,hne,hne2,e2,e256,a22,u256]
 (repeat with_reducible refine And.intro (by first|exact True.intro|decide|omega|(simp [zik,zgl,zgm,zgn,zgp,zgo,zgt];first|done|omega)) ?_)
 simp only [dl,dj,bhq,Nat.reduceMod,Nat.reduceDiv,bG,bH,bI,cD,bJ,cz,cE,cr,ct,yaq,yar,yao,yap,go_sem,bC,bv,hg,hgc,bB hb,bR,bk,cd,hne,hne2,e2,e256,a22,u256]
 refine r4 (s:=4) (xO b v false false) rfl (by simp only [go_sem];rfl) ?_ ?_
 ·simp [xO,cl,aS,cR,nN,vc,cp,AV.cells,iS,eZ,fa,fO,e7,fY,iG,gY,gF,wkM]
  have:=j3 (b:=b) (v:=v+1) (n:=256) (by decide)
  omega
 simp only [dl,dj,bhq,Nat.reduceMod,Nat.reduceDiv,bG,bH,bI,cD,bJ,cz,cE,cr,ct,yaq,yar,yao,yap,go_sem,bC,bv,hg,hgc,bB hb,bR,bk,cd,hne,hne2,e2,e256,a22,u256]
 refine aj (fun h1=>?_) (fun h1=>?_)
 all_goals
  simp only [dl,dj,bhq,Nat.reduceMod,Nat.reduceDiv,bG,bH,bI,cD,bJ,cz,cE,cr,ct,yaq,yar,yao,yap,go_sem,bC,bv,hg,hgc,bB hb,bR,bk,cd,hne,hne2,e2,e256,a22,u256,xO,cl,List.flatMap_cons,List.flatMap_nil,aS,AV.cells,yal,yak]
  (repeat with_reducible refine And.intro (by first|exact True.intro|decide|omega|(simp [zik,zgl,zgm,zgn,zgp,zgo,zgt];first|done|omega)) ?_)
  refine aj (fun h2=>?_) (fun h2=>?_)
 all_goals
  try simp only [dl,dj,bhq,Nat.reduceMod,Nat.reduceDiv,bG,bH,bI,cD,bJ,cz,cE,cr,ct,yaq,yar,yao,yap,go_sem,bC,bv,hg,hgc,bB hb,bR,bk,cd,hne,hne2,e2,e256,a22,u256,xO,cl,List.flatMap_cons,List.flatMap_nil,aS,AV.cells,yal,yak]
  (repeat with_reducible refine And.intro (by first|exact True.intro|decide|omega|(simp [zik,zgl,zgm,zgn,zgp,zgo,zgt];first|done|omega)) ?_)
  have hA:=zD (b:=b) (v:=v)
  rw [show decide (cv b (v+2) 2=1)=_ from h1,show decide (cv b (v+3) 2=1)=_ from h2] at hA
  have hr:=kR (sz:=5) (by decide) (fun t=>(aS t).cells) (fun _=>rfl) (cl b v)
  rw [← hA] at hr
  subst hres
  refine ⟨?_,?_,hcl2 _,bY li⟩
  ·simp only [wk,wk2,wk1,go_sem,yap,true_or,true_and]
   refine ⟨?_,?_⟩
   ·exact hr.symm
   ·rw [zmp (by (try simp only [zkz]);omega)]
  ·refine But.le (id:=id) ?_ ?_
   ·repeat (first|exact But.self|refine But.push ?_ _|refine But.set ?_ _ (by first|exact .inl rfl|exact .inr (by (try simp only [zky,zkz]);omega)))
   ·simp only [go_sem,hne,hne2,hgc,cp]
end Go.AL
