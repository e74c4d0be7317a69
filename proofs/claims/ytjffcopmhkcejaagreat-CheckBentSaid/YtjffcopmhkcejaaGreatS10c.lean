/- Lemmas of the proof; no condition. -/
import Derived.Test.YtjffcopmhkcejaaGreatS10z
import Derived.Test.YtjffcopmhkcejaaGreatLVal
import Derived.Test.YtjffcopmhkcejaaGreatLEntB
set_option linter.all false
set_option maxRecDepth 10000
set_option maxHeartbeats 32000000
open Go Go.AL Go.Proofs
namespace Go.AL
theorem PG:ti Tryz.prog 3=some ⟨.int .i64,1,8,.int .i64 0⟩:=krf
theorem EX:ti Tryz.prog 50=some ⟨.struct [(0,3,false),(1,9,false),(2,3,false)],3,32,.agg [.int .i64 0,.str [],.int .i64 0]⟩:=krf
theorem CI:ti Tryz.prog 52=some ⟨.struct [(0,3,false),(1,9,false),(2,23,false)],3,48,.agg [.int .i64 0,.str [],.slice .nil 1 []]⟩:=krf
theorem HQ:ti Tryz.prog 96=some ⟨.struct [(0,94,false),(2,94,false),(4,3,false)],5,40,.agg [.int .u64 0,.int .u64 0,.int .u64 0,.int .u64 0,.int .i64 0]⟩:=krf
theorem FA:ti Tryz.prog 69=some ⟨.struct [(0,3,false),(1,3,false),(2,3,false),(3,67,false),(4,3,false)],5,56,.agg [.int .i64 0,.int .i64 0,.int .i64 0,.slice .nil 1 [],.int .i64 0]⟩:=krf
theorem MH:ti Tryz.prog 100=some ⟨.struct [(0,3,false),(1,3,false),(2,98,false)],6,48,.agg [.int .i64 0,.int .i64 0,.int .i64 0,.int .i64 0,.int .u64 0,.int .u64 0]⟩:=krf
theorem Aa:ti Tryz.prog 98=some ⟨.struct [(0,3,false),(1,3,false),(2,94,false)],4,32,.agg [.int .i64 0,.int .i64 0,.int .u64 0,.int .u64 0]⟩:=krf
theorem Fd:ti Tryz.prog 102=some ⟨.struct [(0,9,false),(1,3,false)],2,24,.agg [.str [],.int .i64 0]⟩:=krf
theorem CA:ti Tryz.prog 74=some ⟨.struct [(0,3,false),(1,9,false),(2,71,false),(3,72,false),(4,9,false)],5,88,.agg [.int .i64 0,.str [],.slice .nil 1 [],.slice .nil 1 [],.str []]⟩:=krf
theorem O2:ti Tryz.prog 104=some ⟨.struct [(0,9,false),(1,3,false),(2,3,false)],3,32,.agg [.str [],.int .i64 0,.int .i64 0]⟩:=krf
theorem Fy:ti Tryz.prog 62=some ⟨.struct [(0,3,false),(1,9,false),(2,59,false),(3,23,false),(4,3,false),(5,60,false),(6,3,false),(7,9,false)],8,128,.agg [.int .i64 0,.str [],.slice .nil 1 [],.slice .nil 1 [],.int .i64 0,.slice .nil 1 [],.int .i64 0,.str []]⟩:=krf
theorem F8:ti Tryz.prog 58=some ⟨.struct [(0,3,false),(1,3,false)],2,16,.agg [.int .i64 0,.int .i64 0]⟩:=krf
theorem F6:ti Tryz.prog 109=some ⟨.struct [(0,3,false),(1,4,false),(2,4,false),(3,107,false)],4,40,.agg [.int .i64 0,.bool false,.bool false,.slice .nil 1 []]⟩:=krf
theorem M6:ti Tryz.prog 79=some ⟨.struct [(0,3,false),(1,9,false),(2,77,false),(3,23,false),(4,3,false),(5,4,false)],6,88,.agg [.int .i64 0,.str [],.slice .nil 1 [],.slice .nil 1 [],.int .i64 0,.bool false]⟩:=krf
theorem QL:ti Tryz.prog 44=some ⟨.struct [(0,3,false),(1,3,false),(2,3,false),(3,3,false),(4,3,false),(5,3,false)],6,48,.agg [.int .i64 0,.int .i64 0,.int .i64 0,.int .i64 0,.int .i64 0,.int .i64 0]⟩:=krf
theorem Dq:ti Tryz.prog 34=some ⟨.struct [(0,25,false),(1,26,false),(2,27,false),(3,28,false),(4,29,false),(5,30,false),(6,31,false),(7,32,false),(8,3,false),(9,3,false)],10,208,.agg [.slice .nil 1 [],.slice .nil 1 [],.slice .nil 1 [],.slice .nil 1 [],.slice .nil 1 [],.slice .nil 1 [],.slice .nil 1 [],.slice .nil 1 [],.int .i64 0,.int .i64 0]⟩:=krf
def Gi:tSl Tryz.prog 25 50:=kSl
def CH:tSl Tryz.prog 26 52:=kSl
def I9:tSl Tryz.prog 67 96:=kSl
def Fb:tSl Tryz.prog 27 69:=kSl
def LA:tSl Tryz.prog 72 100:=kSl
def GY:tSl Tryz.prog 71 102:=kSl
def Dl:tSl Tryz.prog 28 74:=kSl
def PW:tSl Tryz.prog 59 104:=kSl
def GR:tSl Tryz.prog 29 62:=kSl
def GW:tSl Tryz.prog 30 58:=kSl
def GB:tSl Tryz.prog 77 109:=kSl
def Lv:tSl Tryz.prog 31 79:=kSl
def Pe:tSl Tryz.prog 32 44:=kSl
def OB:tSl Tryz.prog 60 94:=kSl
def N4:tSl Tryz.prog 23 3:=kSl
def HH:tSl Tryz.prog 107 4:=kSl
attribute [go_sem] PG EX CI HQ FA MH Aa Fd CA O2 Fy F8 F6 M6 QL Dq Gi CH I9 Fb LA GY Dl PW GR GW GB Lv Pe OB N4 HH
def dj:ECt
 |[.ptr id 0],H,K=>onC (H.get id) fun b v=>K (.ret (.bool (decide (cv b v 2=1)))) (H.set id (il b (v+1)))
 |_,_,_=>False
def oM:EEe 16 dj:=by
 refine Yef fun _ H K h=>?_
 unfold dj at h
 split at h<;>try exact h.elim
 rename_i id
 obtain⟨b,v,hg,hb,hv,hK⟩:=pm h
 refine⟨_,_,hK,?_⟩
 clear hK
 refine Yfu aD (tCq oD tNq) Tryz.func16 [.tmp 2] fun hcl=>?_
 have hid:=glq hg
 have hcl2:(H.set id (il b (v+1))).Closed:=bA hcl ma
 have e2:(2:Int).toNat=2:=rfl
 simp only[go_sem,dB,hg,dm hb,cp,e2,Nat.add_zero,Nat.min_eq_left hv]
 have e:((((cv b v 2:Nat):Int))==1)=decide (cv b v 2=1):=Xs
 refine⟨⟨Xb,Xb⟩,?_⟩
 rw[e]
 simp (disch:=first|exact Zd|omega) [↓zmm,beq,ybc,ybd,ybe,ag,wk,wk2,wk1,wkM,wkL,ay,ybf,hcl2]
def ug{id n:Nat}(h:id<n):((id=n)=False)∧((id=n+1)=False)∧((id=n+1+1)=False)∧((id=n+1+1+1)=False)∧((id=n+1+1+1+1)=False)∧((id=n+1+1+1+1+1)=False)∧((id=n+1+1+1+1+1+1)=False)∧((id=n+1+1+1+1+1+1+1)=False)∧((id=n+1+1+1+1+1+1+1+1)=False)∧((id=n+1+1+1+1+1+1+1+1+1)=False)∧((id=n+1+1+1+1+1+1+1+1+1+1)=False)∧((id=n+1+1+1+1+1+1+1+1+1+1+1)=False)∧((id=n+1+1+1+1+1+1+1+1+1+1+1+1)=False)∧((id=n+1+1+1+1+1+1+1+1+1+1+1+1+1)=False)∧((id=n+1+1+1+1+1+1+1+1+1+1+1+1+1+1)=False)∧((id=n+1+1+1+1+1+1+1+1+1+1+1+1+1+1+1)=False) :=
 ⟨eFo,eFo,eFo,eFo,eFo,eFo,eFo,eFo,eFo,eFo,eFo,eFo,eFo,eFo,eFo,eFo⟩
def qx{H:AHeap}{id:Nat}(h:id<H.nx)(b:By)(v:Nat):(H.set id (il b v)).get id=some (il b v):=AHeap.get_set_same _ _ h
def l5{b:By}{v:Nat}:([AV.int .i64 0,.int .i64 0,.int .i64 65535,.int .i64 3].getD (cv b v 4) .junk)=.int .i64 (nQ (cv b v 4)):=by
 have h:=jO (b:=b) (v:=v) (n:=4) Xb
 unfold nQ
 generalize cv b v 4=c at *
 match c,h with
 |0,_=>rfl
 |1,_=>rfl
 |2,_=>rfl
 |3,_=>rfl
def aa{α:Type}{n sz:Nat}{f:α→AV}{l:List α}(h:∀ x,AV.lt n (f x)):AV.lt n (.slice .any sz (l.map f)):=xK fun x hx=>by
 obtain⟨y,_,rfl⟩:=List.mem_map.1 hx
 exact h y
def lV{n v:Nat}{l:Wz}:ltL n (vc v++l)=ltL n l:=by simp[vc,zns,znd]
def j3{n v:Nat}:ltL n (vc v)=True:=by simp[vc,zns,znt,znd]
def gS{n:Nat}{l:List Int}:AV.lt n (.slice .any 1 (inL l)):=aa fun x=>by simp only[znd]
def La{n:Nat}{l:List Bool}:AV.lt n (.slice .any 1 (boL l)):=aa fun x=>by simp only[zne]
def vP{n:Nat}{l:List Nat}:AV.lt n (.slice .any 2 (l.map vv)):=aa fun x=>by simp only[vv,znp,zns,znt,znd,and_true]
def gL{n:Nat}(x:SField):AV.lt n (aJ x):=by
 simp only[aJ,znp,zns,znt,znd,znf,zne,lV,j3,List.append_assoc,yal,yak,true_and,and_true]
def fK{n:Nat}(x:SHeader):AV.lt n (az x):=by
 simp only[az,znp,zns,znt,znd,znf,zne,lV,j3,List.append_assoc,yal,yak,true_and,and_true]
 exact gS
def gh{n:Nat}(x:SCase):AV.lt n (ba x):=by
 simp only[ba,znp,zns,znt,znd,znf,zne,lV,j3,List.append_assoc,yal,yak,true_and,and_true]
def eL{n:Nat}(x:SState):AV.lt n (aE x):=by
 simp only[aE,znp,zns,znt,znd,znf,zne,lV,j3,List.append_assoc,yal,yak,true_and,and_true]
 exact aa gh
def iH{n:Nat}(x:SPrim):AV.lt n (aU x):=by
 simp only[aU,znp,zns,znt,znd,znf,zne,lV,j3,List.append_assoc,yal,yak,true_and,and_true]
def fX{n:Nat}(x:SParam):AV.lt n (aL x):=by
 simp only[aL,znp,zns,znt,znd,znf,zne,lV,j3,List.append_assoc,yal,yak,true_and,and_true]
def fo{n:Nat}(x:SAction):AV.lt n (ap x):=by
 simp only[ap,znp,zns,znt,znd,znf,zne,lV,j3,List.append_assoc,yal,yak,true_and,and_true]
 exact⟨aa fX,aa iH⟩
def jI{n:Nat}(x:SKey):AV.lt n (aZ x):=by
 simp only[aZ,znp,zns,znt,znd,znf,zne,lV,j3,List.append_assoc,yal,yak,true_and,and_true]
def cZ{n:Nat}(x:STable):AV.lt n (au x):=by
 simp only[au,znp,zns,znt,znd,znf,zne,lV,j3,List.append_assoc,yal,yak,true_and,and_true]
 exact⟨aa jI,gS,vP⟩
def ir{n:Nat}(x:SStage):AV.lt n (aQ x):=by
 simp only[aQ,znp,zns,znt,znd,znf,zne,lV,j3,List.append_assoc,yal,yak,true_and,and_true]
def gf{n:Nat}(x:SGrant):AV.lt n (aK x):=by
 simp only[aK,znp,zns,znt,znd,znf,zne,lV,j3,List.append_assoc,yal,yak,true_and,and_true]
 exact La
def gO{n:Nat}(x:SRole):AV.lt n (aP x):=by
 simp only[aP,znp,zns,znt,znd,znf,zne,lV,j3,List.append_assoc,yal,yak,true_and,and_true]
 exact⟨aa gf,gS⟩
def km{n:Nat}(x:SRef):AV.lt n (bc x):=by
 simp only[bc,znp,zns,znt,znd,znf,zne,lV,j3,List.append_assoc,yal,yak,true_and,and_true]
def iC{n:Nat}(x:Sch):AV.lt n (cW x):=by
 simp only[cW,aR,znp,zns,znt,znd,true_and,and_true]
 exact⟨aa gL,aa fK,aa eL,aa fo,aa cZ,aa ir,aa gO,aa km⟩
theorem Q6{b:By}{u n:Nat}(h:0<n):(0≤((cv b u n:Nat):Int)∧((cv b u n:Nat):Int)<(n:Int))=True:=eq_true ⟨Xa,by have:=jO (b:=b) (v:=u) h;omega⟩
def eG(g:By→Nat→AV × Nat):ECt
 |[.ptr id 0],H,K=>onC (H.get id) fun b v=>K (.ret (g b v).1) (H.set id (il b (g b v).2))
 |_,_,_=>False
def tR:=eG fun b v=>(.slice .any 5 ((bE b v).1.map aE),(bE b v).2)
def CP:EEe 12 tR:=by
 unfold tR
 refine Yef fun _ H K h=>?_
 unfold eG at h
 split at h<;>try exact h.elim
 rename_i id
 obtain⟨b,v,hg,hb,hv,hK⟩:=pm h
 refine⟨_,_,hK,?_⟩
 clear hK
 refine Yfw aD (tCq oD (tCq oM tNq)) Tryz.func12 [.tmp 2] (nrq _) (T:=aC [(5,[[],[],[],[],[],[3],[],[],[],[],[3],[],[3,10],[],[3,10,12],[1,3,10,12],[],[1,3,10,12]]),(10,[[16]])]) (h:=fun hcl=>?_)
 have hid:=glq hg
 have hne:=ug hid
 have hgc:=qx (b:=b) hid
 have hcl2:∀ w,(H.set id (il b w)).Closed:=fun w=>bA hcl ma
 have c4:∀ u,(0≤((cv b u 4:Nat):Int)∧((cv b u 4:Nat):Int)<((4:Nat):Int))=True:=fun u=>Q6 Xb
 simp only[go_sem,dB,dj,hg,hgc,dm hb,eQ,cU,fw,hne,l5,c4,iNq]
 have w8:∀ u,IntKind.u64.wrap (IntKind.i64.wrap (8*((cv b u 2:Nat):Int)))=((8*cv b u 2:Nat):Int):=fun u=>by
  have:=jO (b:=b) (v:=u) (n:=2) Xb
  rw[wrap_i64 Xa Xa,ku Xa (Xa)];omega
 have w1:∀ u,IntKind.i64.wrap (1+((cv b u 3:Nat):Int))=1+((cv b u 3:Nat):Int):=fun u=>by
  have:=jO (b:=b) (v:=u) (n:=3) Xb
  rw[wrap_i64 Xa (Xa)]
 have hvs:∀ u,vc (8*cv b u 2)=[.int .u64 0,.int .u64 ((8*cv b u 2:Nat):Int)]:=fun u=>qy (by
  have:=jO (b:=b) (v:=u) (n:=2) Xb
  omega)
 refine⟨Xb,ax (fun h1=>?_) (fun h1=>?_)⟩
 ·have h1':cv b (v+1) 2=1:=of_decide_eq_true h1
  refine Tq16 ?_
  refine⟨Xb,Xb,⟨by simp[ziq,zgq,zgr,zgs],Xb,Xb,ax (fun h2=>?_) (fun h2=>?_)⟩⟩
  ·have h2':cv b (v+5) 3=1:=by simp[cp]at h2;omega
   refine Tq16 ?_
   refine⟨Xb,?_⟩
   refine lO 2 (.slice .any 5 ((bE b v).1.map aE)) ?_ ?_
   ·exact Z4
   ·have e:(bE b v).2=cp v 7:=by unfold bE;simp only[h1',h2',if_true,if_false];rfl
    exact Y40
  ·have h2':¬ cv b (v+5) 3=1:=by simp[cp]at h2;omega
   refine Tq16 ?_
   refine lO 2 (.slice .any 5 ((bE b v).1.map aE)) ?_ ?_
   ·exact Z4
   ·have e:(bE b v).2=cp v 6:=by unfold bE;simp only[h1',h2',if_true,if_false];rfl
    exact Y40
 ·have h1':¬ cv b (v+1) 2=1:=of_decide_eq_false h1
  refine Tq16 ?_
  refine⟨Xb,Xb,ax (fun h2=>?_) (fun h2=>?_)⟩
  ·have h2':cv b (v+3) 3=1:=by simp[cp]at h2;omega
   refine Tq16 ?_
   refine⟨Xb,?_⟩
   refine lO 2 (.slice .any 5 ((bE b v).1.map aE)) ?_ ?_
   ·exact Z4
   ·have e:(bE b v).2=cp v 5:=by unfold bE;simp only[h1',h2',if_true,if_false];rfl
    exact Y40
  ·have h2':¬ cv b (v+3) 3=1:=by simp[cp]at h2;omega
   refine Tq16 ?_
   refine lO 2 (.slice .any 5 ((bE b v).1.map aE)) ?_ ?_
   ·exact Z4
   ·have e:(bE b v).2=cp v 4:=by unfold bE;simp only[h1',h2',if_true,if_false];rfl
    exact Y40
def Cd:tSl Tryz.prog 105 9:=kSl
def BH:tSl Tryz.prog 106 105:=kSl
attribute [go_sem] Cd BH
def JnT{α:Type}(F:α→Fr)(G:α→AHeap)(I:α→Prop)(K:Vz):Prop:=∀ x,I x→K (F x) (G x)
def jb{α:Type}(F:α→Fr)(G:α→AHeap)(I:α→Prop){K:Vz}{C:Prop}(h:JnT F G I K→C)(hJ:JnT F G I K):C:=h hJ
def bw{α:Type}{F:α→Fr}{G:α→AHeap}{I:α→Prop}{n0:Nat}{K:Vz}{fr:Fr}{H:AHeap}(J:JnT F G I K)(x:α)(hx:I x)(he:enterW n0 fr H (F x) (G x)):mr n0 K fr H:=tW _ _ he (J x hx)
def Cl{F:Nat × AHeap→Fr}{I:Nat × AHeap→Prop}{n0 s id off sz len:Nat}{K:Vz}{fr:Fr}{H:AHeap}(J:JnT F (fun x=>x.2) (fun x=>x.2.Closed∧I x) K)(hs:Fr.get fr s=.ms id off sz len)(hc:H.Closed)(hx:I (id,H))(hn:n0≤H.nx)(hl:ltF H.nx (F (id,H)))(hw:bg H H (F (id,H)) fr):mr n0 K fr H:=tW _ _ ⟨hn,lRq _,hc,hl,hw⟩ (J _ ⟨hc,hx⟩)
def yO{n0 s id off sz len:Nat}{K:Vz}{fr:Fr}{H:AHeap}{cs:Wz}(cs':Wz)(hs:Fr.get fr s=.ms id off sz len)(hc:a8 H id=some cs)(h:nB cs cs')(hk:K fr (H.set id (.cells cs'))):mr n0 K fr H:=fL id cs' hc h hk
structure But(id:Nat)(H Hc:AHeap):Prop where
 nx:H.nx≤Hc.nx
 get:∀ j x,j≠id→H.get j=some x→Hc.get j=some x
theorem But.push{id:Nat}{H Hc:AHeap}(h:But id H Hc)(o:AObj):But id H (Hc.push o):=⟨by rw[zlc];exact Nat.le_succ_of_le h.nx,fun j x hj hx=>by
 have:=h.get j x hj hx
 rw[gPq _ _ (glq this)];exact this⟩
theorem But.set{id i:Nat}{H Hc:AHeap}(h:But id H Hc)(o:AObj)(hi:i=id∨H.nx≤i):But id H (Hc.set i o):=⟨by rw[zld];exact h.nx,fun j x hj hx=>by
 have hlt:=glq hx
 rw[AHeap.get_set_ne _ _ (by rcases hi with rfl|hi<;>omega)]
 exact h.get j x hj hx⟩
theorem But.del{id i:Nat}{H Hc:AHeap}(h:But id H Hc)(hi:H.nx≤i):But id H (Hc.del i):=⟨by rw[kS];exact h.nx,fun j x hj hx=>by
 have hlt:=glq hx
 rw[mR,if_neg (Xa)]
 exact h.get j x hj hx⟩
theorem But.self{id:Nat}{H:AHeap}:But id H H:=⟨nrq _,fun _ _ _ h=>h⟩
theorem But.le{id:Nat}{H Hc:AHeap}{o:AObj}(h:But id H Hc)(hg:Hc.get id=some o):(H.set id o).Le Hc:=Py h.get hg h.nx
def xZ{H:AHeap}{i j:Nat}{o o':AObj}(h:i≠j):(H.set i o).set j o'=(H.set j o').set i o:=by
 simp only[AHeap.set,AHeap.mk.injEq,true_and]
 funext k
 by_cases h1:k=i
 ·subst h1;simp[h]
 ·simp[h1]
def JQ{H:AHeap}{i:Nat}{o o':AObj}:(H.set i o).set i o'=H.set i o':=by
 simp only[AHeap.set,AHeap.mk.injEq,true_and]
 funext k
 by_cases h1:k=i<;>simp[h1]
def E6(b:By)(v k:Nat):List STable:=(cD b v).take k++((cD b v).drop k).map fun t=>{t with restr:=[]}
def xx(b:By)(v k:Nat):Wz:=(E6 b v k).flatMap fun t=>(au t).cells
def Bf{α:Type}{n:Nat}{f:α→AV}{l:List α}(h:∀ x,AV.lt n (f x)):ltL n (l.flatMap fun x=>(f x).cells):=ltL_iff.2 fun j hj=>by
 obtain⟨x,_,hx⟩:=List.mem_flatMap.1 (gMq hj)
 obtain⟨k,hk,e⟩:=List.mem_iff_getElem.1 hx
 rw[← e];exact AV.lt_cells (h x) k hk
theorem qu{α:Type}{sz:Nat}(h1:sz≠1)(f:α→Wz)(hf:∀ x,(f x).length=sz):∀ l:List α,dh sz l.length (l.flatMap f)=l.map fun x=>.agg (f x)
 |[]=>rfl
 |x::l=>by
  rw[yaz,List.flatMap_cons,dh,if_neg h1,yae,show(f x++l.flatMap f).drop sz=l.flatMap f by rw[← hf x,List.drop_left],qu h1 f hf l]
  congr 2
  apply List.ext_getElem
  ·simp[hf]
  ·intro j a1 a2
   simp only[List.getElem_map,List.getElem_range]
   rw[gEq,List.getElem?_append_left a2,gQq a2];rfl
def pP:AV:=.slice .any 1 [.slice .any 1 (gText0.map .str),.slice .any 1 (gText1.map .str),.slice .any 1 (gText2.map .str),.slice .any 1 (gText3.map .str)]
def tJ:=eG fun b v=>(.slice .any 8 ((cD b v).map au),v+12)
def CS:EEe 14 tJ:=by
 unfold tJ
 refine Yef fun _ H K h=>?_
 unfold eG at h
 split at h<;>try exact h.elim
 rename_i id
 obtain⟨b,v,hg,hb,hv,hK⟩:=pm h
 refine⟨_,_,hK,?_⟩
 clear hK
 refine Yfw aD (tCq oD (tCq oM tNq)) Tryz.func14 [.tmp 2] (nrq _) (T:=aC [(16,[[],[],[],[],[],[],[],[],[],[7],[],[],[5,7,9]]),(11,[[14]]),(13,[[1,1,1]])]) (h:=fun hcl=>?_)
 have hid:=glq hg
 have hne:=ug hid
 have hne2:=ug (show id<H.nx+1+1+1+1+1+1+1+1+1+1+1+1+1+1+1+1 by omega)
 have hgc:=qx (b:=b) hid
 have hcl2:∀ w,(H.set id (il b w)).Closed:=fun w=>bA hcl ma
 have c3:∀ u,(0≤((cv b u 3:Nat):Int)∧((cv b u 3:Nat):Int)<((3:Nat):Int))=True:=fun u=>Q6 Xb
 have w1:∀(u n:Nat)(k:Int),0<n→n≤100→0≤k→k≤100→IntKind.i64.wrap (k+((cv b u n:Nat):Int))=k+((cv b u n:Nat):Int):=fun u n k h1 h2 h3 h4=>by
  exact Y129
 have e2:(2:Int).toNat=2:=rfl
 have e5:(5:Int).toNat=5:=rfl
 have e6:(6:Int).toNat=6:=rfl
 have e3:(3:Int).toNat=3:=rfl
 have a12:∀ u,IntKind.i64.wrap (1+((cv b u 2:Nat):Int))=1+((cv b u 2:Nat):Int):=fun u=>w1 u 2 1 Xb Xb Xb Xb
 have a25:∀ u,IntKind.i64.wrap (2+((cv b u 5:Nat):Int))=2+((cv b u 5:Nat):Int):=fun u=>w1 u 5 2 Xb Xb Xb Xb
 have a36:∀ u,IntKind.i64.wrap (3+((cv b u 6:Nat):Int))=3+((cv b u 6:Nat):Int):=fun u=>w1 u 6 3 Xb Xb Xb Xb
 have a46:∀ u,IntKind.i64.wrap (4+((cv b u 6:Nat):Int))=4+((cv b u 6:Nat):Int):=fun u=>w1 u 6 4 Xb Xb Xb Xb
 have a35:∀ u,IntKind.i64.wrap (3+((cv b u 5:Nat):Int))=3+((cv b u 5:Nat):Int):=fun u=>w1 u 5 3 Xb Xb Xb Xb
 simp only[go_sem,dB,dj,hg,hgc,dm hb,eQ,cU,fw,hne,e2,e3,e5,e6,a12,a25,a36,a46,a35]
 apply jb (α:=Nat × AHeap) (fun x=>[(0,.ptr id 0),(7,.ms x.1 0 8 4),(8,pP)]) (fun x=>x.2) (fun x=>x.2.Closed∧H.nx≤x.1∧x.1<x.2.nx∧But id H x.2∧x.2.get id=some (il b (cp v 8))∧x.2.get x.1=some (.cells (xx b v 0)))
 ·intro J
  refine Tq7 ?_
  refine ax (fun h1=>?_) (fun h1=>?_)
  all_goals
   simp only[aX,aA,bhq,go_sem,dB,dj,hg,hgc,dm hb,eQ,cU,fw,hne,e2,e3,e5,e6,a12,a25,a36,a46,a35]
   refine Tq7 ?_
   refine ax (fun h2=>?_) (fun h2=>?_)
  all_goals
   simp only[aX,aA,bhq,go_sem,dB,dj,hg,hgc,dm hb,eQ,cU,fw,hne,e2,e3,e5,e6,a12,a25,a36,a46,a35]
   refine Tq7 ?_
   refine ax (fun h3=>?_) (fun h3=>?_)
  all_goals
   simp only[aX,aA,bhq,go_sem,dB,dj,hg,hgc,dm hb,eQ,cU,fw,hne,e2,e3,e5,e6,a12,a25,a36,a46,a35]
   refine Tq7 ?_
   refine yO (s:=7) (xx b v 0) rfl Xn ?_ ?_
   ·first|replace h1:=of_decide_eq_true h1|replace h1:=of_decide_eq_false h1
    first|replace h2:=of_decide_eq_true h2|replace h2:=of_decide_eq_false h2
    first|replace h3:=of_decide_eq_true h3|replace h3:=of_decide_eq_false h3
    simp only[cp]at h1 h2 h3
    simp[xx,E6,cD,iJ,hG,fg,fe,au,aZ,inL,vv,h1,h2,h3,cp,AV.cells,nS,cY,cX,dO,jc,fq,mU,mP,mG,wkM]
   refine lO 8 pP ?_ ?_
   ·simp[Fr.get,pP,gText0,gText1,gText2,gText3,AV.cells,cY,cX,dO,jc,fq,mP,wkM]
   refine Cl (s:=7) J rfl ?_ ?_ (by(try simp only[zkt,zko,jK,zlc,zld]);omega) ?_ ?_
   ·repeat' (first|exact hcl2 _|refine aY ?_|refine bA ?_ ?_|refine ah ?_ ?_)
    all_goals first|exact Bf fun _=>cZ _|(simp[cI,zns,znt,znd,znf,zne,znp,AV.cells,yal,yak,zlc,zld];try omega)
   ·dsimp only
    refine⟨by(try simp only[zlc,zld]);omega,by(try simp only[zlc,zld]);omega,?_,?_,?_⟩
    ·repeat(first|exact But.self|refine But.push ?_ _|refine But.set ?_ _ (by first|exact .inl rfl|exact .inr (by(try simp only[zlc,zld]);omega)))
    ·simp only[go_sem,hne,hne2,hgc,cp]
    ·simp only[go_sem]
   ·simp[ltF,znl,znn,pP,gText0,gText1,gText2,gText3,znf,cI,zns,znt,zlc,zld]
    try omega
   ·simp[bg,wk2,wk1,wkM,Fr.get,pP]
 ·rintro⟨i,Hc⟩ ⟨q3,q1,q2,q4,q5,q6⟩
  dsimp only at q1 q2 q3 q4 q5 q6 ⊢
  have hii:i≠id:=Xa
  have gtx:∀ u x y z,([AV.str x,.str y,.str z]:Wz).getD (cv b u 3) .junk=.str ([x,y,z].getD (cv b u 3) []):=fun u x y z=>by
   have:=jO (b:=b) (v:=u) (n:=3) Xb
   rcases(Xa:cv b u 3=0∨cv b u 3=1∨cv b u 3=2)with e|e|e<;>rw[e]<;>rfl
  have hic:id<Hc.nx:=glq q5
  have hci:∀ C w,a8 ((Hc.set i (.cells C)).set id (il b w)) i=some C:=fun C w=>aB (by
   rw[AHeap.get_set_ne _ _ hii,AHeap.get_set_same _ _ q2])
  have hgd:∀ C w,((Hc.set i (.cells C)).set id (il b w)).get id=some (il b w):=fun C w=>AHeap.get_set_same _ _ (by rw[zld];exact hic)
  have hsi:∀ C C' w,((Hc.set i (.cells C)).set id (il b w)).set i (.cells C')=(Hc.set i (.cells C')).set id (il b w):=fun C C' w=>by
   rw[← xZ hii,JQ,xZ hii]
  have hsd:∀ C w w',((Hc.set i (.cells C)).set id (il b w)).set id (il b w')=(Hc.set i (.cells C)).set id (il b w'):=fun C w w'=>F4
  have hclo:∀ k w,((Hc.set i (.cells (xx b v k))).set id (il b w)).Closed:=fun k w=>bA (bA q3 (Bf fun _=>cZ _)) ma
  simp only[bhq,go_sem]
  refine aG (A:=Nat) (fun k=>[(0,.ptr id 0),(7,.ms i 0 8 4),(8,pP),(80,.int .i64 4),(81,.int .i64 (k:Int))]) (fun k=>(Hc.set i (.cells (xx b v k))).set id (il b (cp v (8+k)))) (fun k=>k≤4) (fun k=>4-k) 0 Xa ?_ fun k hk=>?_
  ·refine⟨by simp only[zld,zko,zkt];have:=q4.nx;omega,?_,hclo _ _,?_,?_⟩
   ·exact((pd (by rw[AHeap.get_set_ne _ _ (fun e=>hii e.symm)];exact q5)).trans (pd q6))
   ·simp[ltF,znl,znn,znd,pP,gText0,gText1,gText2,gText3,znf,cI,zns,znt,zld]
    omega
   ·simp[bg,wk2,wk1,wkM,Fr.get,pP]
  refine Tq20 ?_
  refine ax (fun hc=>?_) (fun hc=>?_)
  ·have hk4:k<4:=sHc
   have c3':∀ u,(0≤((cv b u 3:Nat):Int)∧((cv b u 3:Nat):Int)<((3:Nat):Int)):=fun u=>of_eq_true (c3 u)
   have e4:IntKind.i64.wrap ((k:Int)+1)=((k+1:Nat):Int):=Xe
   rcases(Xa:k=0∨k=1∨k=2∨k=3)with rfl|rfl|rfl|rfl
   ·refine Tq15 ?_
    refine⟨Xb,Xb,Xb,1,Xb,Xb,by simp only[zld,zko,zkt];have:=q4.nx;omega,lRq _,hclo 1 _,?_,?_⟩
    ·exact Y131
    ·exact Y14
   ·refine Tq15 ?_
    refine⟨Xb,Xb,Xb,2,Xb,Xb,by simp only[zld,zko,zkt];have:=q4.nx;omega,lRq _,hclo 2 _,?_,?_⟩
    ·exact Y131
    ·exact Y14
   ·refine Tq15 ?_
    refine⟨Xb,Xb,Xb,3,Xb,Xb,by simp only[zld,zko,zkt];have:=q4.nx;omega,lRq _,hclo 3 _,?_,?_⟩
    ·exact Y131
    ·exact Y14
   ·refine Tq15 ?_
    refine⟨Xb,Xb,Xb,4,Xb,Xb,by simp only[zld,zko,zkt];have:=q4.nx;omega,lRq _,hclo 4 _,?_,?_⟩
    ·exact Y131
    ·exact Y14
  ·have hk4:k=4:=sHc
   subst hk4
   refine Tq20 ?_
   have hr:dh 8 4 (xx b v 4)=(cD b v).map au:=qu Xb (fun t=>(au t).cells) (fun _=>rfl) (cD b v)
   refine⟨?_,?_,hcl2 _,aa cZ⟩
   ·simp only[wk,wk2,wk1,hci,yap,hr,true_or,true_and]
    rw[zmt (by rw[zld];exact q1)]
   ·exact((q4.set _ (.inr q1)).set _ (.inl rfl)).le (hgd _ _)
def rT:=eG fun b v=>(.slice .any 5 ((dZ b v).map ap),v+4)
def GH(b:By)(v:Nat)(r1 r2:Bool):Wz:=((dZ b v).map fun a=>(⟨a.id,a.name,a.params,a.body,if a.id=3∧r1=true then [112,111,114,116,32,33,61,32,48]else if a.id=5∧r2=true then [120,32,60,32,121,32,124,124,32,120,32,61,61,32,49,53]else []⟩:SAction)).flatMap fun a=>(ap a).cells
def Ju{b:By}{v:Nat}:GH b v (decide (cv b (v+2) 2=1)) (decide (cv b (v+3) 2=1))=(dZ b v).flatMap fun a=>(ap a).cells:=by
 by_cases h1:cv b (v+2) 2=1<;>by_cases h2:cv b (v+3) 2=1<;>simp[GH,dZ,ap,AV.cells,h1,h2]
def Bj:EEe 13 rT:=by
 unfold rT
 refine Yef fun _ H K h=>?_
 unfold eG at h
 split at h<;>try exact h.elim
 rename_i id
 obtain⟨b,v,hg,hb,hv,hK⟩:=pm h
 refine⟨_,_,hK,?_⟩
 clear hK
 dsimp only
 generalize hres:AV.slice .any 5 ((dZ b v).map ap)=res
 refine Yfw aD (tCq oD (tCq oM tNq)) Tryz.func13 [.tmp 2] (nrq _) (T:=aC [(2,[[],[],[],[],[],[],[],[],[],[],[],[],[],[],[],[],[],[],[],[],[],[],[],[],[],[],[],[],[],[],[],[],[],[29],[29,33],[],[],[],[29,33],[],[6,12,22,29,33]]),(802,[[100002],[100005],[100008],[100011],[100016],[100020],[100026],[100044]]),(1202,[[40]]),(3,[[1]])]) (h:=fun hcl=>?_)
 have hid:=glq hg
 have hne:=ug hid
 have hne2:=ug (show id<H.nx+1+1+1+1+1+1+1+1+1+1+1+1+1+1+1+1 by omega)
 have hgc:=qx (b:=b) hid
 have hcl2:∀ w,(H.set id (il b w)).Closed:=fun w=>bA hcl ma
 have e2:(2:Int).toNat=2:=rfl
 have e256:(256:Int).toNat=256:=rfl
 have a22:∀ u,IntKind.i64.wrap (2+((cv b u 2:Nat):Int))=2+((cv b u 2:Nat):Int):=fun u=>by
  have:=jO (b:=b) (v:=u) (n:=2) Xb
  rw[wrap_i64 Xa (Xa)]
 have u256:∀ u,IntKind.u64.wrap ((cv b u 256:Nat):Int)=((cv b u 256:Nat):Int):=fun u=>by
  have:=jO (b:=b) (v:=u) (n:=256) Xb
  rw[ku Xa (Xa)]
 simp only[go_sem,dB,dj,hg,hgc,dm hb,eQ,cU,fw,hne,hne2,e2,e256,a22,u256]
 refine Tq7 ?_
 refine Tq57 ?_
 refine yO (s:=4) (GH b v false false) rfl Xn ?_ ?_
 ·simp[GH,dZ,ap,aL,aU,vc,cp,AV.cells,nS,cY,cX,dO,jc,fq,mU,mP,mG,wkM]
  have:=jO (b:=b) (v:=v+1) (n:=256) Xb
  omega
 refine Tq57 ?_
 refine ax (fun h1=>?_) (fun h1=>?_)
 all_goals
  simp only[aX,aA,bhq,go_sem,dB,dj,hg,hgc,dm hb,eQ,cU,fw,hne,hne2,e2,e256,a22,u256,GH,dZ,List.flatMap_cons,List.flatMap_nil,ap,AV.cells,yal,yak]
  refine Tq7 ?_
  refine ax (fun h2=>?_) (fun h2=>?_)
 all_goals
  try simp only[aX,aA,bhq,go_sem,dB,dj,hg,hgc,dm hb,eQ,cU,fw,hne,hne2,e2,e256,a22,u256,GH,dZ,List.flatMap_cons,List.flatMap_nil,ap,AV.cells,yal,yak]
  refine Tq7 ?_
  have hA:=Ju (b:=b) (v:=v)
  rw[show decide (cv b (v+2) 2=1)=_ from h1,show decide (cv b (v+3) 2=1)=_ from h2]at hA
  have hr:=qu (sz:=5) Xb (fun t=>(ap t).cells) (fun _=>rfl) (dZ b v)
  rw[← hA]at hr
  subst hres
  refine⟨?_,?_,hcl2 _,aa fo⟩
  ·simp only[wk,wk2,wk1,go_sem,yap,true_or,true_and]
   refine⟨?_,?_⟩
   ·exact hr.symm
   ·rw[zmt (by(try simp only[zld]);omega)]
  ·refine But.le (id:=id) ?_ ?_
   ·repeat(first|exact But.self|refine But.push ?_ _|refine But.set ?_ _ (by first|exact .inl rfl|exact .inr (by(try simp only[zlc,zld]);omega)))
   ·simp only[go_sem,hne,hne2,hgc,cp]
end Go.AL
