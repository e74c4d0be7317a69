/- Lemmas of the proof; no condition. -/
import Derived.Test.YthnlhjalhflgfaaGreatS10z
import Derived.Test.YthnlhjalhflgfaaGreatLVal
import Derived.Test.YthnlhjalhflgfaaGreatLEntB
set_option linter.all false
set_option maxRecDepth 10000
set_option maxHeartbeats 32000000
open Go Go.AL Go.Proofs
namespace Go.AL
theorem Ns:ti Tryz.prog 3=some ⟨.int .i64,1,8,.int .i64 0⟩:=krf
theorem E5:ti Tryz.prog 45=some ⟨.struct [(0,3,false),(1,9,false),(2,3,false)],3,32,.agg [.int .i64 0,.str [],.int .i64 0]⟩:=krf
theorem Bx:ti Tryz.prog 69=some ⟨.struct [(0,3,false),(1,9,false),(2,23,false)],3,48,.agg [.int .i64 0,.str [],.slice .nil 1 []]⟩:=krf
theorem FE:ti Tryz.prog 108=some ⟨.struct [(0,106,false),(2,106,false),(4,3,false)],5,40,.agg [.int .u64 0,.int .u64 0,.int .u64 0,.int .u64 0,.int .i64 0]⟩:=krf
theorem EQ:ti Tryz.prog 81=some ⟨.struct [(0,3,false),(1,3,false),(2,3,false),(3,79,false),(4,3,false)],5,56,.agg [.int .i64 0,.int .i64 0,.int .i64 0,.slice .nil 1 [],.int .i64 0]⟩:=krf
theorem F2:ti Tryz.prog 112=some ⟨.struct [(0,3,false),(1,3,false),(2,110,false)],6,48,.agg [.int .i64 0,.int .i64 0,.int .i64 0,.int .i64 0,.int .u64 0,.int .u64 0]⟩:=krf
theorem Ad:ti Tryz.prog 110=some ⟨.struct [(0,3,false),(1,3,false),(2,106,false)],4,32,.agg [.int .i64 0,.int .i64 0,.int .u64 0,.int .u64 0]⟩:=krf
theorem ET:ti Tryz.prog 114=some ⟨.struct [(0,9,false),(1,3,false)],2,24,.agg [.str [],.int .i64 0]⟩:=krf
theorem BG:ti Tryz.prog 86=some ⟨.struct [(0,3,false),(1,9,false),(2,83,false),(3,84,false),(4,9,false)],5,88,.agg [.int .i64 0,.str [],.slice .nil 1 [],.slice .nil 1 [],.str []]⟩:=krf
theorem NH:ti Tryz.prog 53=some ⟨.struct [(0,9,false),(1,3,false),(2,3,false)],3,32,.agg [.str [],.int .i64 0,.int .i64 0]⟩:=krf
theorem Ee:ti Tryz.prog 57=some ⟨.struct [(0,3,false),(1,9,false),(2,54,false),(3,23,false),(4,3,false),(5,55,false),(6,3,false),(7,9,false)],8,128,.agg [.int .i64 0,.str [],.slice .nil 1 [],.slice .nil 1 [],.int .i64 0,.slice .nil 1 [],.int .i64 0,.str []]⟩:=krf
theorem Dq:ti Tryz.prog 75=some ⟨.struct [(0,3,false),(1,3,false)],2,16,.agg [.int .i64 0,.int .i64 0]⟩:=krf
theorem DI:ti Tryz.prog 119=some ⟨.struct [(0,3,false),(1,4,false),(2,4,false),(3,117,false)],4,40,.agg [.int .i64 0,.bool false,.bool false,.slice .nil 1 []]⟩:=krf
theorem FG:ti Tryz.prog 48=some ⟨.struct [(0,3,false),(1,9,false),(2,46,false),(3,23,false),(4,3,false),(5,4,false)],6,88,.agg [.int .i64 0,.str [],.slice .nil 1 [],.slice .nil 1 [],.int .i64 0,.bool false]⟩:=krf
theorem Lz:ti Tryz.prog 50=some ⟨.struct [(0,3,false),(1,3,false),(2,3,false),(3,3,false),(4,3,false),(5,3,false)],6,48,.agg [.int .i64 0,.int .i64 0,.int .i64 0,.int .i64 0,.int .i64 0,.int .i64 0]⟩:=krf
theorem BJ:ti Tryz.prog 34=some ⟨.struct [(0,25,false),(1,26,false),(2,27,false),(3,28,false),(4,29,false),(5,30,false),(6,31,false),(7,32,false),(8,3,false),(9,3,false)],10,208,.agg [.slice .nil 1 [],.slice .nil 1 [],.slice .nil 1 [],.slice .nil 1 [],.slice .nil 1 [],.slice .nil 1 [],.slice .nil 1 [],.slice .nil 1 [],.int .i64 0,.int .i64 0]⟩:=krf
theorem EJ:tSl Tryz.prog 25 45:=kSl
theorem Bj:tSl Tryz.prog 26 69:=kSl
theorem HA:tSl Tryz.prog 79 108:=kSl
theorem DE:tSl Tryz.prog 27 81:=kSl
theorem GY:tSl Tryz.prog 84 112:=kSl
theorem EM:tSl Tryz.prog 83 114:=kSl
theorem Br:tSl Tryz.prog 28 86:=kSl
theorem ME:tSl Tryz.prog 54 53:=kSl
theorem DX:tSl Tryz.prog 29 57:=kSl
theorem Eg:tSl Tryz.prog 30 75:=kSl
theorem D8:tSl Tryz.prog 46 119:=kSl
theorem Ky:tSl Tryz.prog 31 48:=kSl
theorem Nl:tSl Tryz.prog 32 50:=kSl
theorem On:tSl Tryz.prog 55 106:=kSl
theorem L2:tSl Tryz.prog 23 3:=kSl
theorem HO:tSl Tryz.prog 117 4:=kSl
attribute [go_sem] Ns E5 Bx FE EQ F2 Ad ET BG NH Ee Dq DI FG Lz BJ EJ Bj HA DE GY EM Br ME DX Eg D8 Ky Nl On L2 HO
def cV:ECt
 |[.ptr id 0],H,K=>onC (H.get id) fun b v=>K (.ret (.bool (decide (cv b v 2=1)))) (H.set id (gI b (v+1)))
 |_,_,_=>False
theorem nr:EEe 24 cV:=by
 refine Yef fun _ H K h=>?_
 unfold cV at h
 split at h<;>try exact h.elim
 rename_i id
 obtain ⟨b,v,hg,hb,hv,hK⟩:=nU h
 refine ⟨_,_,hK,?_⟩
 clear hK
 refine Yfu aE (tCq nq tNq) Tryz.func24 [.tmp 2] fun hcl=>?_
 have hid:=glq hg
 have hcl2:(H.set id (gI b (v+1))).Closed:=bG hcl jW
 have e2:(2:Int).toNat=2:=rfl
 simp only [go_sem,dn,hg,cY hb,cp,e2,Nat.add_zero,Nat.min_eq_left hv]
 have e:((((cv b v 2:Nat):Int))==1)=decide (cv b v 2=1):=by rw [Bool.eq_iff_iff];simp;omega
 refine ⟨⟨by decide,by decide⟩,?_⟩
 rw [e]
 simp (disch:=first|exact Zd|omega) [↓zmo,beq,ybc,ybd,ybe,ag,wk,wk2,wk1,wkM,wkL,ay,ybf,hcl2]
theorem sK {id n:Nat} (h:id<n):((id=n)=False)∧((id=n+1)=False)∧((id=n+1+1)=False)∧((id=n+1+1+1)=False)∧((id=n+1+1+1+1)=False)∧((id=n+1+1+1+1+1)=False)∧((id=n+1+1+1+1+1+1)=False)∧((id=n+1+1+1+1+1+1+1)=False)∧((id=n+1+1+1+1+1+1+1+1)=False)∧((id=n+1+1+1+1+1+1+1+1+1)=False)∧((id=n+1+1+1+1+1+1+1+1+1+1)=False)∧((id=n+1+1+1+1+1+1+1+1+1+1+1)=False)∧((id=n+1+1+1+1+1+1+1+1+1+1+1+1)=False)∧((id=n+1+1+1+1+1+1+1+1+1+1+1+1+1)=False)∧((id=n+1+1+1+1+1+1+1+1+1+1+1+1+1+1)=False)∧((id=n+1+1+1+1+1+1+1+1+1+1+1+1+1+1+1)=False) :=
 ⟨eFo,eFo,eFo,eFo,eFo,eFo,eFo,eFo,eFo,eFo,eFo,eFo,eFo,eFo,eFo,eFo⟩
theorem oR {H:AHeap} {id:Nat} (h:id<H.nx) (b:List UInt8) (v:Nat):(H.set id (gI b v)).get id=some (gI b v):=AHeap.get_set_same _ _ h
theorem ll {b:List UInt8} {v:Nat}:([AV.int .i64 0,.int .i64 0,.int .i64 65535,.int .i64 3].getD (cv b v 4) .junk)=.int .i64 (oq (cv b v 4)):=by
 have h:=lQ (b:=b) (v:=v) (n:=4) (by decide)
 unfold oq
 generalize cv b v 4=c at *
 match c,h with
 |0,_=>rfl
 |1,_=>rfl
 |2,_=>rfl
 |3,_=>rfl
theorem aa {α:Type} {n sz:Nat} {f:α→AV} {l:List α} (h:∀ x,AV.lt n (f x)):AV.lt n (.slice .any sz (l.map f)):=we fun x hx=>by
 obtain ⟨y,_,rfl⟩:=List.mem_map.1 hx
 exact h y
theorem lk {n v:Nat} {l:List AV}:ltL n (vc v++l)=ltL n l:=by simp [vc,znu,znf]
theorem jv {n v:Nat}:ltL n (vc v)=True:=by simp [vc,znu,znv,znf]
theorem fD {n:Nat} {l:List Int}:AV.lt n (.slice .any 1 (inL l)):=aa fun x=>by simp only [znf]
theorem JR {n:Nat} {l:List Bool}:AV.lt n (.slice .any 1 (boL l)):=aa fun x=>by simp only [zng]
theorem u0 {n:Nat} {l:List Nat}:AV.lt n (.slice .any 2 (l.map vv)):=aa fun x=>by simp only [vv,znr,znu,znv,znf,and_true]
theorem gD {n:Nat} (x:SField):AV.lt n (aG x):=by
 simp only [aG,znr,znu,znv,znf,znh,zng,lk,jv,List.append_assoc,yal,yak,true_and,and_true]
theorem fA {n:Nat} (x:SHeader):AV.lt n (az x):=by
 simp only [az,znr,znu,znv,znf,znh,zng,lk,jv,List.append_assoc,yal,yak,true_and,and_true]
 exact fD
theorem iU {n:Nat} (x:SCase):AV.lt n (bb x):=by
 simp only [bb,znr,znu,znv,znf,znh,zng,lk,jv,List.append_assoc,yal,yak,true_and,and_true]
theorem ey {n:Nat} (x:SState):AV.lt n (aA x):=by
 simp only [aA,znr,znu,znv,znf,znh,zng,lk,jv,List.append_assoc,yal,yak,true_and,and_true]
 exact aa iU
theorem iC {n:Nat} (x:SPrim):AV.lt n (aT x):=by
 simp only [aT,znr,znu,znv,znf,znh,zng,lk,jv,List.append_assoc,yal,yak,true_and,and_true]
theorem fH {n:Nat} (x:SParam):AV.lt n (aL x):=by
 simp only [aL,znr,znu,znv,znf,znh,zng,lk,jv,List.append_assoc,yal,yak,true_and,and_true]
theorem eP {n:Nat} (x:SAction):AV.lt n (ap x):=by
 simp only [ap,znr,znu,znv,znf,znh,zng,lk,jv,List.append_assoc,yal,yak,true_and,and_true]
 exact ⟨aa fH,aa iC⟩
theorem j3 {n:Nat} (x:SKey):AV.lt n (ba x):=by
 simp only [ba,znr,znu,znv,znf,znh,zng,lk,jv,List.append_assoc,yal,yak,true_and,and_true]
theorem cS {n:Nat} (x:STable):AV.lt n (ax x):=by
 simp only [ax,znr,znu,znv,znf,znh,zng,lk,jv,List.append_assoc,yal,yak,true_and,and_true]
 exact ⟨aa j3,fD,u0⟩
theorem gX {n:Nat} (x:SStage):AV.lt n (aO x):=by
 simp only [aO,znr,znu,znv,znf,znh,zng,lk,jv,List.append_assoc,yal,yak,true_and,and_true]
theorem fV {n:Nat} (x:SGrant):AV.lt n (aJ x):=by
 simp only [aJ,znr,znu,znv,znf,znh,zng,lk,jv,List.append_assoc,yal,yak,true_and,and_true]
 exact JR
theorem gM {n:Nat} (x:SRole):AV.lt n (aN x):=by
 simp only [aN,znr,znu,znv,znf,znh,zng,lk,jv,List.append_assoc,yal,yak,true_and,and_true]
 exact ⟨aa fV,fD⟩
theorem iJ {n:Nat} (x:SRef):AV.lt n (a9 x):=by
 simp only [a9,znr,znu,znv,znf,znh,zng,lk,jv,List.append_assoc,yal,yak,true_and,and_true]
theorem sF {n:Nat} (x:Sch):AV.lt n (eE x):=by
 simp only [eE,aR,znr,znu,znv,znf,true_and,and_true]
 exact ⟨aa gD,aa fA,aa ey,aa eP,aa cS,aa gX,aa gM,aa iJ⟩
theorem Pj {b:List UInt8} {u n:Nat} (h:0<n):(0≤((cv b u n:Nat):Int)∧((cv b u n:Nat):Int)<(n:Int))=True:=eq_true ⟨by omega,by have:=lQ (b:=b) (v:=u) h;omega⟩
def eG (g:List UInt8→Nat→AV × Nat):ECt
 |[.ptr id 0],H,K=>onC (H.get id) fun b v=>K (.ret (g b v).1) (H.set id (gI b (g b v).2))
 |_,_,_=>False
def r9:=eG fun b v=>(.slice .any 5 ((dy b v).1.map aA),(dy b v).2)
theorem AM:EEe 20 r9:=by
 unfold r9
 refine Yef fun _ H K h=>?_
 unfold eG at h
 split at h<;>try exact h.elim
 rename_i id
 obtain ⟨b,v,hg,hb,hv,hK⟩:=nU h
 refine ⟨_,_,hK,?_⟩
 clear hK
 refine Yfw aE (tCq nq (tCq nr tNq)) Tryz.func20 [.tmp 2] (nrq _) (T:=aB [(5,[[],[],[],[],[],[3],[],[],[],[],[3],[],[3,10],[],[3,10,12],[1,3,10,12],[],[1,3,10,12]]),(10,[[16]])]) (h:=fun hcl=>?_)
 have hid:=glq hg
 have hne:=sK hid
 have hgc:=oR (b:=b) hid
 have hcl2:∀ w,(H.set id (gI b w)).Closed:=fun w=>bG hcl jW
 have c4:∀ u,(0≤((cv b u 4:Nat):Int)∧((cv b u 4:Nat):Int)<((4:Nat):Int))=True:=fun u=>Pj (by decide)
 simp only [go_sem,dn,cV,hg,hgc,cY hb,ep,cO,eN,hne,ll,c4,iNq]
 have w8:∀ u,IntKind.u64.wrap (IntKind.i64.wrap (8*((cv b u 2:Nat):Int)))=((8*cv b u 2:Nat):Int):=fun u=>by
  have:=lQ (b:=b) (v:=u) (n:=2) (by decide)
  rw [wrap_i64 (by omega) (by omega),jP (by omega) (by omega)];omega
 have w1:∀ u,IntKind.i64.wrap (1+((cv b u 3:Nat):Int))=1+((cv b u 3:Nat):Int):=fun u=>by
  have:=lQ (b:=b) (v:=u) (n:=3) (by decide)
  rw [wrap_i64 (by omega) (by omega)]
 have hvs:∀ u,vc (8*cv b u 2)=[.int .u64 0,.int .u64 ((8*cv b u 2:Nat):Int)]:=fun u=>oQ (by
  have:=lQ (b:=b) (v:=u) (n:=2) (by decide)
  omega)
 refine ⟨by decide,au (fun h1=>?_) (fun h1=>?_)⟩
 ·have h1':cv b (v+1) 2=1:=of_decide_eq_true h1
  refine Tq11 ?_
  refine ⟨by decide,by decide,⟨by simp [ziq,zgq,zgr,zgs],by decide,by decide,au (fun h2=>?_) (fun h2=>?_)⟩⟩
  ·have h2':cv b (v+5) 3=1:=by simp [cp] at h2;omega
   refine Tq11 ?_
   refine ⟨by decide,?_⟩
   refine lj 2 (.slice .any 5 ((dy b v).1.map aA)) ?_ ?_
   ·exact Z4
   ·have e:(dy b v).2=cp v 7:=by unfold dy;simp only [h1',h2',if_true,if_false];rfl
    exact Y40
  ·have h2':¬ cv b (v+5) 3=1:=by simp [cp] at h2;omega
   refine Tq11 ?_
   refine lj 2 (.slice .any 5 ((dy b v).1.map aA)) ?_ ?_
   ·exact Z4
   ·have e:(dy b v).2=cp v 6:=by unfold dy;simp only [h1',h2',if_true,if_false];rfl
    exact Y40
 ·have h1':¬ cv b (v+1) 2=1:=of_decide_eq_false h1
  refine Tq11 ?_
  refine ⟨by decide,by decide,au (fun h2=>?_) (fun h2=>?_)⟩
  ·have h2':cv b (v+3) 3=1:=by simp [cp] at h2;omega
   refine Tq11 ?_
   refine ⟨by decide,?_⟩
   refine lj 2 (.slice .any 5 ((dy b v).1.map aA)) ?_ ?_
   ·exact Z4
   ·have e:(dy b v).2=cp v 5:=by unfold dy;simp only [h1',h2',if_true,if_false];rfl
    exact Y40
  ·have h2':¬ cv b (v+3) 3=1:=by simp [cp] at h2;omega
   refine Tq11 ?_
   refine lj 2 (.slice .any 5 ((dy b v).1.map aA)) ?_ ?_
   ·exact Z4
   ·have e:(dy b v).2=cp v 4:=by unfold dy;simp only [h1',h2',if_true,if_false];rfl
    exact Y40
theorem A8:tSl Tryz.prog 115 9:=kSl
theorem zu:tSl Tryz.prog 116 115:=kSl
attribute [go_sem] A8 zu
def JnT {α:Type} (F:α→Fr) (G:α→AHeap) (I:α→Prop) (K:Fr→AHeap→Prop):Prop:=∀ x,I x→K (F x) (G x)
theorem iG {α:Type} (F:α→Fr) (G:α→AHeap) (I:α→Prop) {K:Fr→AHeap→Prop} {C:Prop} (h:JnT F G I K→C) (hJ:JnT F G I K):C:=h hJ
theorem bC {α:Type} {F:α→Fr} {G:α→AHeap} {I:α→Prop} {n0:Nat} {K:Fr→AHeap→Prop} {fr:Fr} {H:AHeap} (J:JnT F G I K) (x:α) (hx:I x) (he:enterW n0 fr H (F x) (G x)):mF n0 K fr H:=sg _ _ he (J x hx)
theorem Bc {F:Nat × AHeap→Fr} {I:Nat × AHeap→Prop} {n0 s id off sz len:Nat} {K:Fr→AHeap→Prop} {fr:Fr} {H:AHeap} (J:JnT F (fun x=>x.2) (fun x=>x.2.Closed∧I x) K) (hs:Fr.get fr s=.ms id off sz len) (hc:H.Closed) (hx:I (id,H)) (hn:n0≤H.nx) (hl:ltF H.nx (F (id,H))) (hw:bg H H (F (id,H)) fr):mF n0 K fr H:=sg _ _ ⟨hn,lRq _,hc,hl,hw⟩ (J _ ⟨hc,hx⟩)
theorem xe {n0 s id off sz len:Nat} {K:Fr→AHeap→Prop} {fr:Fr} {H:AHeap} {cs:List AV} (cs':List AV) (hs:Fr.get fr s=.ms id off sz len) (hc:a8 H id=some cs) (h:oy cs cs') (hk:K fr (H.set id (.cells cs'))):mF n0 K fr H:=gT id cs' hc h hk
structure But (id:Nat) (H Hc:AHeap):Prop where
 nx:H.nx≤Hc.nx
 get:∀ j x,j≠id→H.get j=some x→Hc.get j=some x
theorem But.push {id:Nat} {H Hc:AHeap} (h:But id H Hc) (o:AObj):But id H (Hc.push o):=⟨by rw [zle];exact Nat.le_succ_of_le h.nx,fun j x hj hx=>by
 have:=h.get j x hj hx
 rw [gPq _ _ (glq this)];exact this⟩
theorem But.set {id i:Nat} {H Hc:AHeap} (h:But id H Hc) (o:AObj) (hi:i=id∨H.nx≤i):But id H (Hc.set i o):=⟨by rw [zlf];exact h.nx,fun j x hj hx=>by
 have hlt:=glq hx
 rw [AHeap.get_set_ne _ _ (by rcases hi with rfl|hi<;>omega)]
 exact h.get j x hj hx⟩
theorem But.del {id i:Nat} {H Hc:AHeap} (h:But id H Hc) (hi:H.nx≤i):But id H (Hc.del i):=⟨by rw [lA];exact h.nx,fun j x hj hx=>by
 have hlt:=glq hx
 rw [nC,if_neg (by omega)]
 exact h.get j x hj hx⟩
theorem But.self {id:Nat} {H:AHeap}:But id H H:=⟨nrq _,fun _ _ _ h=>h⟩
theorem But.le {id:Nat} {H Hc:AHeap} {o:AObj} (h:But id H Hc) (hg:Hc.get id=some o):(H.set id o).Le Hc:=OW h.get hg h.nx
theorem wg {H:AHeap} {i j:Nat} {o o':AObj} (h:i≠j):(H.set i o).set j o'=(H.set j o').set i o:=by
 simp only [AHeap.set,AHeap.mk.injEq,true_and]
 funext k
 by_cases h1:k=i
 ·subst h1;simp [h]
 ·simp [h1]
theorem Jb {H:AHeap} {i:Nat} {o o':AObj}:(H.set i o).set i o'=H.set i o':=by
 simp only [AHeap.set,AHeap.mk.injEq,true_and]
 funext k
 by_cases h1:k=i<;>simp [h1]
def Ev (b:List UInt8) (v k:Nat):List STable:=(fw b v).take k++((fw b v).drop k).map fun t=>{ t with restr:=[] }
def vU (b:List UInt8) (v k:Nat):List AV:=(Ev b v k).flatMap fun t=>(ax t).cells
theorem yz {α:Type} {n:Nat} {f:α→AV} {l:List α} (h:∀ x,AV.lt n (f x)):ltL n (l.flatMap fun x=>(f x).cells):=ltL_iff.2 fun j hj=>by
 obtain ⟨x,_,hx⟩:=List.mem_flatMap.1 (gMq hj)
 obtain ⟨k,hk,e⟩:=List.mem_iff_getElem.1 hx
 rw [← e];exact AV.lt_cells (h x) k hk
theorem pq {α:Type} {sz:Nat} (h1:sz≠1) (f:α→List AV) (hf:∀ x,(f x).length=sz):∀ l:List α,dJ sz l.length (l.flatMap f)=l.map fun x=>.agg (f x)
 |[]=>rfl
 |x::l=>by
  rw [yaz,List.flatMap_cons,dJ,if_neg h1,yae,show (f x++l.flatMap f).drop sz=l.flatMap f by rw [← hf x,List.drop_left],pq h1 f hf l]
  congr 2
  apply List.ext_getElem
  ·simp [hf]
  ·intro j a1 a2
   simp only [List.getElem_map,List.getElem_range]
   rw [gEq,List.getElem?_append_left a2,gQq a2];rfl
def oo:AV:=.slice .any 1 [.slice .any 1 (gText0.map .str),.slice .any 1 (gText1.map .str),.slice .any 1 (gText2.map .str),.slice .any 1 (gText3.map .str)]
def rY:=eG fun b v=>(.slice .any 8 ((fw b v).map ax),v+12)
theorem BD:EEe 22 rY:=by
 unfold rY
 refine Yef fun _ H K h=>?_
 unfold eG at h
 split at h<;>try exact h.elim
 rename_i id
 obtain ⟨b,v,hg,hb,hv,hK⟩:=nU h
 refine ⟨_,_,hK,?_⟩
 clear hK
 refine Yfw aE (tCq nq (tCq nr tNq)) Tryz.func22 [.tmp 2] (nrq _) (T:=aB [(16,[[],[],[],[],[],[],[],[],[],[7],[],[],[5,7,9]]),(11,[[14]]),(13,[[1,1,1]])]) (h:=fun hcl=>?_)
 have hid:=glq hg
 have hne:=sK hid
 have hne2:=sK (show id<H.nx+1+1+1+1+1+1+1+1+1+1+1+1+1+1+1+1 by omega)
 have hgc:=oR (b:=b) hid
 have hcl2:∀ w,(H.set id (gI b w)).Closed:=fun w=>bG hcl jW
 have c3:∀ u,(0≤((cv b u 3:Nat):Int)∧((cv b u 3:Nat):Int)<((3:Nat):Int))=True:=fun u=>Pj (by decide)
 have w1:∀ (u n:Nat) (k:Int),0<n→n≤100→0≤k→k≤100→IntKind.i64.wrap (k+((cv b u n:Nat):Int))=k+((cv b u n:Nat):Int):=fun u n k h1 h2 h3 h4=>by
  exact Y125
 have e2:(2:Int).toNat=2:=rfl
 have e5:(5:Int).toNat=5:=rfl
 have e6:(6:Int).toNat=6:=rfl
 have e3:(3:Int).toNat=3:=rfl
 have a12:∀ u,IntKind.i64.wrap (1+((cv b u 2:Nat):Int))=1+((cv b u 2:Nat):Int):=fun u=>w1 u 2 1 (by decide) (by decide) (by decide) (by decide)
 have a25:∀ u,IntKind.i64.wrap (2+((cv b u 5:Nat):Int))=2+((cv b u 5:Nat):Int):=fun u=>w1 u 5 2 (by decide) (by decide) (by decide) (by decide)
 have a36:∀ u,IntKind.i64.wrap (3+((cv b u 6:Nat):Int))=3+((cv b u 6:Nat):Int):=fun u=>w1 u 6 3 (by decide) (by decide) (by decide) (by decide)
 have a46:∀ u,IntKind.i64.wrap (4+((cv b u 6:Nat):Int))=4+((cv b u 6:Nat):Int):=fun u=>w1 u 6 4 (by decide) (by decide) (by decide) (by decide)
 have a35:∀ u,IntKind.i64.wrap (3+((cv b u 5:Nat):Int))=3+((cv b u 5:Nat):Int):=fun u=>w1 u 5 3 (by decide) (by decide) (by decide) (by decide)
 simp only [go_sem,dn,cV,hg,hgc,cY hb,ep,cO,eN,hne,e2,e3,e5,e6,a12,a25,a36,a46,a35]
 apply iG (α:=Nat × AHeap) (fun x=>[(0,.ptr id 0),(7,.ms x.1 0 8 4),(8,oo)]) (fun x=>x.2) (fun x=>x.2.Closed∧H.nx≤x.1∧x.1<x.2.nx∧But id H x.2∧x.2.get id=some (gI b (cp v 8))∧x.2.get x.1=some (.cells (vU b v 0)))
 ·intro J
  refine Tq3 ?_
  refine au (fun h1=>?_) (fun h1=>?_)
  all_goals
   simp only [bm,aD,bhq,Nat.reduceMod,Nat.reduceDiv,aW,aX,aZ,bx,aY,bw,bo,bp,bv,yaq,yar,yao,yap,go_sem,dn,cV,hg,hgc,cY hb,ep,cO,eN,hne,e2,e3,e5,e6,a12,a25,a36,a46,a35]
   refine Tq3 ?_
   refine au (fun h2=>?_) (fun h2=>?_)
  all_goals
   simp only [bm,aD,bhq,Nat.reduceMod,Nat.reduceDiv,aW,aX,aZ,bx,aY,bw,bo,bp,bv,yaq,yar,yao,yap,go_sem,dn,cV,hg,hgc,cY hb,ep,cO,eN,hne,e2,e3,e5,e6,a12,a25,a36,a46,a35]
   refine Tq3 ?_
   refine au (fun h3=>?_) (fun h3=>?_)
  all_goals
   simp only [bm,aD,bhq,Nat.reduceMod,Nat.reduceDiv,aW,aX,aZ,bx,aY,bw,bo,bp,bv,yaq,yar,yao,yap,go_sem,dn,cV,hg,hgc,cY hb,ep,cO,eN,hne,e2,e3,e5,e6,a12,a25,a36,a46,a35]
   refine Tq3 ?_
   refine xe (s:=7) (vU b v 0) rfl (by simp only [go_sem];rfl) ?_ ?_
   ·first|replace h1:=of_decide_eq_true h1|replace h1:=of_decide_eq_false h1
    first|replace h2:=of_decide_eq_true h2|replace h2:=of_decide_eq_false h2
    first|replace h3:=of_decide_eq_true h3|replace h3:=of_decide_eq_false h3
    simp only [cp] at h1 h2 h3
    simp [vU,Ev,fw,ln,ls,gu,gv,ax,ba,inL,vv,h1,h2,h3,cp,AV.cells,mK,dN,dO,eI,iE,eM,lX,lS,lG,wkM]
   refine lj 8 oo ?_ ?_
   ·simp [Fr.get,oo,gText0,gText1,gText2,gText3,AV.cells,dN,dO,eI,iE,eM,lS,wkM]
   refine Bc (s:=7) J rfl ?_ ?_ (by (try simp only [zkv,zkq,ja,zle,zlf]);omega) ?_ ?_
   ·repeat' (first|exact hcl2 _|refine bc ?_|refine bG ?_ ?_|refine ah ?_ ?_)
    all_goals first|exact yz fun _=>cS _|(simp [cC,znu,znv,znf,znh,zng,znr,AV.cells,yal,yak,zle,zlf];try omega)
   ·dsimp only
    refine ⟨by (try simp only [zle,zlf]);omega,by (try simp only [zle,zlf]);omega,?_,?_,?_⟩
    ·repeat (first|exact But.self|refine But.push ?_ _|refine But.set ?_ _ (by first|exact .inl rfl|exact .inr (by (try simp only [zle,zlf]);omega)))
    ·simp only [go_sem,hne,hne2,hgc,cp]
    ·simp only [go_sem]
   ·simp [ltF,znn,znp,oo,gText0,gText1,gText2,gText3,znh,cC,znu,znv,zle,zlf]
    try omega
   ·simp [bg,wk2,wk1,wkM,Fr.get,oo]
 ·rintro ⟨i,Hc⟩ ⟨q3,q1,q2,q4,q5,q6⟩
  dsimp only at q1 q2 q3 q4 q5 q6 ⊢
  have hii:i≠id:=by omega
  have gtx:∀ u x y z,([AV.str x,.str y,.str z]:List AV).getD (cv b u 3) .junk=.str ([x,y,z].getD (cv b u 3) []):=fun u x y z=>by
   have:=lQ (b:=b) (v:=u) (n:=3) (by decide)
   rcases (by omega:cv b u 3=0∨cv b u 3=1∨cv b u 3=2) with e|e|e<;>rw [e]<;>rfl
  have hic:id<Hc.nx:=glq q5
  have hci:∀ C w,a8 ((Hc.set i (.cells C)).set id (gI b w)) i=some C:=fun C w=>aM (by
   rw [AHeap.get_set_ne _ _ hii,AHeap.get_set_same _ _ q2])
  have hgd:∀ C w,((Hc.set i (.cells C)).set id (gI b w)).get id=some (gI b w):=fun C w=>AHeap.get_set_same _ _ (by rw [zlf];exact hic)
  have hsi:∀ C C' w,((Hc.set i (.cells C)).set id (gI b w)).set i (.cells C')=(Hc.set i (.cells C')).set id (gI b w):=fun C C' w=>by
   rw [← wg hii,Jb,wg hii]
  have hsd:∀ C w w',((Hc.set i (.cells C)).set id (gI b w)).set id (gI b w')=(Hc.set i (.cells C)).set id (gI b w'):=fun C w w'=>Ef
  have hclo:∀ k w,((Hc.set i (.cells (vU b v k))).set id (gI b w)).Closed:=fun k w=>bG (bG q3 (yz fun _=>cS _)) jW
  simp only [bhq,Nat.reduceMod,Nat.reduceDiv,aW,aX,aZ,bx,aY,bw,bo,bp,bv,yaq,yar,yao,yap,go_sem]
  refine aC (A:=Nat) (fun k=>[(0,.ptr id 0),(7,.ms i 0 8 4),(8,oo),(80,.int .i64 4),(81,.int .i64 (k:Int))]) (fun k=>(Hc.set i (.cells (vU b v k))).set id (gI b (cp v (8+k)))) (fun k=>k≤4) (fun k=>4 - k) 0 (by omega) ?_ fun k hk=>?_
  ·refine ⟨by simp only [zlf,zkq,zkv];have:=q4.nx;omega,?_,hclo _ _,?_,?_⟩
   ·exact ((nI (by rw [AHeap.get_set_ne _ _ (fun e=>hii e.symm)];exact q5)).trans (nI q6))
   ·simp [ltF,znn,znp,znf,oo,gText0,gText1,gText2,gText3,znh,cC,znu,znv,zlf]
    omega
   ·simp [bg,wk2,wk1,wkM,Fr.get,oo]
  refine Tq15 ?_
  refine au (fun hc=>?_) (fun hc=>?_)
  ·have hk4:k<4:=sHc
   have c3':∀ u,(0≤((cv b u 3:Nat):Int)∧((cv b u 3:Nat):Int)<((3:Nat):Int)):=fun u=>of_eq_true (c3 u)
   have e4:IntKind.i64.wrap ((k:Int)+1)=((k+1:Nat):Int):=by rw [wrap_i64]<;>omega
   rcases (by omega:k=0∨k=1∨k=2∨k=3) with rfl|rfl|rfl|rfl
   ·refine Tq12 ?_
    refine ⟨by decide,by decide,by decide,1,by decide,by decide,by simp only [zlf,zkq,zkv];have:=q4.nx;omega,lRq _,hclo 1 _,?_,?_⟩
    ·exact Y127
    ·exact Y13
   ·refine Tq12 ?_
    refine ⟨by decide,by decide,by decide,2,by decide,by decide,by simp only [zlf,zkq,zkv];have:=q4.nx;omega,lRq _,hclo 2 _,?_,?_⟩
    ·exact Y127
    ·exact Y13
   ·refine Tq12 ?_
    refine ⟨by decide,by decide,by decide,3,by decide,by decide,by simp only [zlf,zkq,zkv];have:=q4.nx;omega,lRq _,hclo 3 _,?_,?_⟩
    ·exact Y127
    ·exact Y13
   ·refine Tq12 ?_
    refine ⟨by decide,by decide,by decide,4,by decide,by decide,by simp only [zlf,zkq,zkv];have:=q4.nx;omega,lRq _,hclo 4 _,?_,?_⟩
    ·exact Y127
    ·exact Y13
  ·have hk4:k=4:=sHc
   subst hk4
   refine Tq15 ?_
   have hr:dJ 8 4 (vU b v 4)=(fw b v).map ax:=pq (by decide) (fun t=>(ax t).cells) (fun _=>rfl) (fw b v)
   refine ⟨?_,?_,hcl2 _,aa cS⟩
   ·simp only [wk,wk2,wk1,hci,yap,hr,true_or,true_and]
    rw [zmv (by rw [zlf];exact q1)]
   ·exact ((q4.set _ (.inr q1)).set _ (.inl rfl)).le (hgd _ _)
def qs:=eG fun b v=>(.slice .any 5 ((fU b v).map ap),v+4)
def EC (b:List UInt8) (v:Nat) (r1 r2:Bool):List AV:=((fU b v).map fun a=>(⟨a.id,a.name,a.params,a.body,if a.id=3∧r1=true then [112,111,114,116,32,33,61,32,48] else if a.id=5∧r2=true then [120,32,60,32,121,32,124,124,32,120,32,61,61,32,49,53] else []⟩:SAction)).flatMap fun a=>(ap a).cells
theorem JK {b:List UInt8} {v:Nat}:EC b v (decide (cv b (v+2) 2=1)) (decide (cv b (v+3) 2=1))=(fU b v).flatMap fun a=>(ap a).cells:=by
 by_cases h1:cv b (v+2) 2=1<;>by_cases h2:cv b (v+3) 2=1<;>simp [EC,fU,ap,AV.cells,h1,h2]
theorem zg:EEe 21 qs:=by
 unfold qs
 refine Yef fun _ H K h=>?_
 unfold eG at h
 split at h<;>try exact h.elim
 rename_i id
 obtain ⟨b,v,hg,hb,hv,hK⟩:=nU h
 refine ⟨_,_,hK,?_⟩
 clear hK
 dsimp only
 generalize hres:AV.slice .any 5 ((fU b v).map ap)=res
 refine Yfw aE (tCq nq (tCq nr tNq)) Tryz.func21 [.tmp 2] (nrq _) (T:=aB [(2,[[],[],[],[],[],[],[],[],[],[],[],[],[],[],[],[],[],[],[],[],[],[],[],[],[],[],[],[],[],[],[],[],[],[29],[29,33],[],[],[],[29,33],[],[6,12,22,29,33]]),(802,[[100002],[100005],[100008],[100011],[100016],[100020],[100026],[100044]]),(1202,[[40]]),(3,[[1]])]) (h:=fun hcl=>?_)
 have hid:=glq hg
 have hne:=sK hid
 have hne2:=sK (show id<H.nx+1+1+1+1+1+1+1+1+1+1+1+1+1+1+1+1 by omega)
 have hgc:=oR (b:=b) hid
 have hcl2:∀ w,(H.set id (gI b w)).Closed:=fun w=>bG hcl jW
 have e2:(2:Int).toNat=2:=rfl
 have e256:(256:Int).toNat=256:=rfl
 have a22:∀ u,IntKind.i64.wrap (2+((cv b u 2:Nat):Int))=2+((cv b u 2:Nat):Int):=fun u=>by
  have:=lQ (b:=b) (v:=u) (n:=2) (by decide)
  rw [wrap_i64 (by omega) (by omega)]
 have u256:∀ u,IntKind.u64.wrap ((cv b u 256:Nat):Int)=((cv b u 256:Nat):Int):=fun u=>by
  have:=lQ (b:=b) (v:=u) (n:=256) (by decide)
  rw [jP (by omega) (by omega)]
 simp only [go_sem,dn,cV,hg,hgc,cY hb,ep,cO,eN,hne,hne2,e2,e256,a22,u256]
 refine Tq3 ?_
 refine Tq39 ?_
 refine xe (s:=4) (EC b v false false) rfl (by simp only [go_sem];rfl) ?_ ?_
 ·simp [EC,fU,ap,aL,aT,vc,cp,AV.cells,mK,dN,dO,eI,iE,eM,lX,lS,lG,wkM]
  have:=lQ (b:=b) (v:=v+1) (n:=256) (by decide)
  omega
 refine Tq39 ?_
 refine au (fun h1=>?_) (fun h1=>?_)
 all_goals
  simp only [bm,aD,bhq,Nat.reduceMod,Nat.reduceDiv,aW,aX,aZ,bx,aY,bw,bo,bp,bv,yaq,yar,yao,yap,go_sem,dn,cV,hg,hgc,cY hb,ep,cO,eN,hne,hne2,e2,e256,a22,u256,EC,fU,List.flatMap_cons,List.flatMap_nil,ap,AV.cells,yal,yak]
  refine Tq3 ?_
  refine au (fun h2=>?_) (fun h2=>?_)
 all_goals
  try simp only [bm,aD,bhq,Nat.reduceMod,Nat.reduceDiv,aW,aX,aZ,bx,aY,bw,bo,bp,bv,yaq,yar,yao,yap,go_sem,dn,cV,hg,hgc,cY hb,ep,cO,eN,hne,hne2,e2,e256,a22,u256,EC,fU,List.flatMap_cons,List.flatMap_nil,ap,AV.cells,yal,yak]
  refine Tq3 ?_
  have hA:=JK (b:=b) (v:=v)
  rw [show decide (cv b (v+2) 2=1)=_ from h1,show decide (cv b (v+3) 2=1)=_ from h2] at hA
  have hr:=pq (sz:=5) (by decide) (fun t=>(ap t).cells) (fun _=>rfl) (fU b v)
  rw [← hA] at hr
  subst hres
  refine ⟨?_,?_,hcl2 _,aa eP⟩
  ·simp only [wk,wk2,wk1,go_sem,yap,true_or,true_and]
   refine ⟨?_,?_⟩
   ·exact hr.symm
   ·rw [zmv (by (try simp only [zlf]);omega)]
  ·refine But.le (id:=id) ?_ ?_
   ·repeat (first|exact But.self|refine But.push ?_ _|refine But.set ?_ _ (by first|exact .inl rfl|exact .inr (by (try simp only [zle,zlf]);omega)))
   ·simp only [go_sem,hne,hne2,hgc,cp]
end Go.AL
