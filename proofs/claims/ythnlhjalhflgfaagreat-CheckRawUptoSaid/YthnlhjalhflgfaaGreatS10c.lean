/- Lemmas of the proof; no condition. -/
import Derived.Test.YthnlhjalhflgfaaGreatS10z
import Derived.Test.YthnlhjalhflgfaaGreatLVal
import Derived.Test.YthnlhjalhflgfaaGreatLEntB
set_option linter.all false
set_option maxRecDepth 10000
set_option maxHeartbeats 32000000
open List renaming length_cons → yaz, length_nil → yba, take_of_length_le → ybc, drop_append → ybd, take_append → ybe, drop_eq_nil_of_le → ybf, cons_append → yal, nil_append → yak, take_succ_cons → yaq, take_zero → yar, drop_succ_cons → yao, drop_zero → yap, map_cons → yae
open Go Go.AL Go.Proofs
namespace Go.AL
theorem MV:ti Tryz.prog 3=some ⟨.int .i64,1,8,.int .i64 0⟩:=krf
theorem F7:ti Tryz.prog 45=some ⟨.struct [(0,3,false),(1,9,false),(2,3,false)],3,32,.agg [.int .i64 0,.str [],.int .i64 0]⟩:=krf
theorem Bh:ti Tryz.prog 69=some ⟨.struct [(0,3,false),(1,9,false),(2,23,false)],3,48,.agg [.int .i64 0,.str [],.slice .nil 1 []]⟩:=krf
theorem J4:ti Tryz.prog 108=some ⟨.struct [(0,106,false),(2,106,false),(4,3,false)],5,40,.agg [.int .u64 0,.int .u64 0,.int .u64 0,.int .u64 0,.int .i64 0]⟩:=krf
theorem EF:ti Tryz.prog 81=some ⟨.struct [(0,3,false),(1,3,false),(2,3,false),(3,79,false),(4,3,false)],5,56,.agg [.int .i64 0,.int .i64 0,.int .i64 0,.slice .nil 1 [],.int .i64 0]⟩:=krf
theorem Jp:ti Tryz.prog 112=some ⟨.struct [(0,3,false),(1,3,false),(2,110,false)],6,48,.agg [.int .i64 0,.int .i64 0,.int .i64 0,.int .i64 0,.int .u64 0,.int .u64 0]⟩:=krf
theorem zp:ti Tryz.prog 110=some ⟨.struct [(0,3,false),(1,3,false),(2,106,false)],4,32,.agg [.int .i64 0,.int .i64 0,.int .u64 0,.int .u64 0]⟩:=krf
theorem FU:ti Tryz.prog 114=some ⟨.struct [(0,9,false),(1,3,false)],2,24,.agg [.str [],.int .i64 0]⟩:=krf
theorem Ce:ti Tryz.prog 86=some ⟨.struct [(0,3,false),(1,9,false),(2,83,false),(3,84,false),(4,9,false)],5,88,.agg [.int .i64 0,.str [],.slice .nil 1 [],.slice .nil 1 [],.str []]⟩:=krf
theorem Mw:ti Tryz.prog 53=some ⟨.struct [(0,9,false),(1,3,false),(2,3,false)],3,32,.agg [.str [],.int .i64 0,.int .i64 0]⟩:=krf
theorem En:ti Tryz.prog 57=some ⟨.struct [(0,3,false),(1,9,false),(2,54,false),(3,23,false),(4,3,false),(5,55,false),(6,3,false),(7,9,false)],8,128,.agg [.int .i64 0,.str [],.slice .nil 1 [],.slice .nil 1 [],.int .i64 0,.slice .nil 1 [],.int .i64 0,.str []]⟩:=krf
theorem Gb:ti Tryz.prog 75=some ⟨.struct [(0,3,false),(1,3,false)],2,16,.agg [.int .i64 0,.int .i64 0]⟩:=krf
theorem Fj:ti Tryz.prog 119=some ⟨.struct [(0,3,false),(1,4,false),(2,4,false),(3,117,false)],4,40,.agg [.int .i64 0,.bool false,.bool false,.slice .nil 1 []]⟩:=krf
theorem JL:ti Tryz.prog 48=some ⟨.struct [(0,3,false),(1,9,false),(2,46,false),(3,23,false),(4,3,false),(5,4,false)],6,88,.agg [.int .i64 0,.str [],.slice .nil 1 [],.slice .nil 1 [],.int .i64 0,.bool false]⟩:=krf
theorem OK:ti Tryz.prog 50=some ⟨.struct [(0,3,false),(1,3,false),(2,3,false),(3,3,false),(4,3,false),(5,3,false)],6,48,.agg [.int .i64 0,.int .i64 0,.int .i64 0,.int .i64 0,.int .i64 0,.int .i64 0]⟩:=krf
theorem CI:ti Tryz.prog 34=some ⟨.struct [(0,25,false),(1,26,false),(2,27,false),(3,28,false),(4,29,false),(5,30,false),(6,31,false),(7,32,false),(8,3,false),(9,3,false)],10,208,.agg [.slice .nil 1 [],.slice .nil 1 [],.slice .nil 1 [],.slice .nil 1 [],.slice .nil 1 [],.slice .nil 1 [],.slice .nil 1 [],.slice .nil 1 [],.int .i64 0,.int .i64 0]⟩:=krf
theorem EM:tSl Tryz.prog 25 45:=kSl
theorem Co:tSl Tryz.prog 26 69:=kSl
theorem GT:tSl Tryz.prog 79 108:=kSl
theorem Et:tSl Tryz.prog 27 81:=kSl
theorem Gz:tSl Tryz.prog 84 112:=kSl
theorem FA:tSl Tryz.prog 83 114:=kSl
theorem Bv:tSl Tryz.prog 28 86:=kSl
theorem MO:tSl Tryz.prog 54 53:=kSl
theorem FN:tSl Tryz.prog 29 57:=kSl
theorem Fw:tSl Tryz.prog 30 75:=kSl
theorem Gd:tSl Tryz.prog 46 119:=kSl
theorem LL:tSl Tryz.prog 31 48:=kSl
theorem NS:tSl Tryz.prog 32 50:=kSl
theorem Oq:tSl Tryz.prog 55 106:=kSl
theorem Mc:tSl Tryz.prog 23 3:=kSl
theorem Gy:tSl Tryz.prog 117 4:=kSl
attribute [go_sem] MV F7 Bh J4 EF Jp zp FU Ce Mw En Gb Fj JL OK CI EM Co GT Et Gz FA Bv MO FN Fw Gd LL NS Oq Mc Gy
def cV:ECt
 |[.ptr id 0],H,K=>onC (H.get id) fun b v=>K (.ret (.bool (decide (cv b v 2=1)))) (H.set id (iu b (v+1)))
 |_,_,_=>False
theorem nI:EEe 24 cV:=by
 refine Yef fun _ H K h=>?_
 unfold cV at h
 split at h<;>try exact h.elim
 rename_i id
 obtain ⟨b,v,hg,hb,hv,hK⟩:=oB h
 refine ⟨_,_,hK,?_⟩
 clear hK
 refine Yfu aC (tCq nO tNq) Tryz.func24 [.tmp 2] fun hcl=>?_
 have hid:=glq hg
 have hcl2:(H.set id (iu b (v+1))).Closed:=bI hcl m0
 have e2:(2:Int).toNat=2:=rfl
 simp only [go_sem,dq,hg,dp hb,cp,e2,Nat.add_zero,Nat.min_eq_left hv]
 have e:((((cv b v 2:Nat):Int))==1)=decide (cv b v 2=1):=by rw [Bool.eq_iff_iff];simp;omega
 refine ⟨⟨by decide,by decide⟩,?_⟩
 rw [e]
 simp (disch:=first|exact Zd|omega) [↓zmo,beq,ybc,ybd,ybe,ag,wk,wk2,wk1,wkM,wkL,au,ybf,hcl2]
theorem tp {id n:Nat} (h:id<n):((id=n)=False)∧((id=n+1)=False)∧((id=n+1+1)=False)∧((id=n+1+1+1)=False)∧((id=n+1+1+1+1)=False)∧((id=n+1+1+1+1+1)=False)∧((id=n+1+1+1+1+1+1)=False)∧((id=n+1+1+1+1+1+1+1)=False)∧((id=n+1+1+1+1+1+1+1+1)=False)∧((id=n+1+1+1+1+1+1+1+1+1)=False)∧((id=n+1+1+1+1+1+1+1+1+1+1)=False)∧((id=n+1+1+1+1+1+1+1+1+1+1+1)=False)∧((id=n+1+1+1+1+1+1+1+1+1+1+1+1)=False)∧((id=n+1+1+1+1+1+1+1+1+1+1+1+1+1)=False)∧((id=n+1+1+1+1+1+1+1+1+1+1+1+1+1+1)=False)∧((id=n+1+1+1+1+1+1+1+1+1+1+1+1+1+1+1)=False) :=
 ⟨eFo,eFo,eFo,eFo,eFo,eFo,eFo,eFo,eFo,eFo,eFo,eFo,eFo,eFo,eFo,eFo⟩
theorem pH {H:AHeap} {id:Nat} (h:id<H.nx) (b:List UInt8) (v:Nat):(H.set id (iu b v)).get id=some (iu b v):=AHeap.get_set_same _ _ h
theorem lk {b:List UInt8} {v:Nat}:([AV.int .i64 0,.int .i64 0,.int .i64 65535,.int .i64 3].getD (cv b v 4) .junk)=.int .i64 (oN (cv b v 4)):=by
 have h:=l7 (b:=b) (v:=v) (n:=4) (by decide)
 unfold oN
 generalize cv b v 4=c at *
 match c,h with
 |0,_=>rfl
 |1,_=>rfl
 |2,_=>rfl
 |3,_=>rfl
theorem aa {α:Type} {n sz:Nat} {f:α→AV} {l:List α} (h:∀ x,AV.lt n (f x)):AV.lt n (.slice .any sz (l.map f)):=xG fun x hx=>by
 obtain ⟨y,_,rfl⟩:=List.mem_map.1 hx
 exact h y
theorem lv {n v:Nat} {l:List AV}:ltL n (vc v++l)=ltL n l:=by simp [vc,znu,znf]
theorem jB {n v:Nat}:ltL n (vc v)=True:=by simp [vc,znu,znv,znf]
theorem gD {n:Nat} {l:List Int}:AV.lt n (.slice .any 1 (inL l)):=aa fun x=>by simp only [znf]
theorem Io {n:Nat} {l:List Bool}:AV.lt n (.slice .any 1 (boL l)):=aa fun x=>by simp only [zng]
theorem vo {n:Nat} {l:List Nat}:AV.lt n (.slice .any 2 (l.map vv)):=aa fun x=>by simp only [vv,znr,znu,znv,znf,and_true]
theorem gL {n:Nat} (x:SField):AV.lt n (aH x):=by
 simp only [aH,znr,znu,znv,znf,znh,zng,lv,jB,List.append_assoc,yal,yak,true_and,and_true]
theorem fG {n:Nat} (x:SHeader):AV.lt n (az x):=by
 simp only [az,znr,znu,znv,znf,znh,zng,lv,jB,List.append_assoc,yal,yak,true_and,and_true]
 exact gD
theorem iY {n:Nat} (x:SCase):AV.lt n (aX x):=by
 simp only [aX,znr,znu,znv,znf,znh,zng,lv,jB,List.append_assoc,yal,yak,true_and,and_true]
theorem ey {n:Nat} (x:SState):AV.lt n (aB x):=by
 simp only [aB,znr,znu,znv,znf,znh,zng,lv,jB,List.append_assoc,yal,yak,true_and,and_true]
 exact aa iY
theorem iG {n:Nat} (x:SPrim):AV.lt n (aT x):=by
 simp only [aT,znr,znu,znv,znf,znh,zng,lv,jB,List.append_assoc,yal,yak,true_and,and_true]
theorem fN {n:Nat} (x:SParam):AV.lt n (aK x):=by
 simp only [aK,znr,znu,znv,znf,znh,zng,lv,jB,List.append_assoc,yal,yak,true_and,and_true]
theorem eS {n:Nat} (x:SAction):AV.lt n (ap x):=by
 simp only [ap,znr,znu,znv,znf,znh,zng,lv,jB,List.append_assoc,yal,yak,true_and,and_true]
 exact ⟨aa fN,aa iG⟩
theorem kg {n:Nat} (x:SKey):AV.lt n (aY x):=by
 simp only [aY,znr,znu,znv,znf,znh,zng,lv,jB,List.append_assoc,yal,yak,true_and,and_true]
theorem cX {n:Nat} (x:STable):AV.lt n (ax x):=by
 simp only [ax,znr,znu,znv,znf,znh,zng,lv,jB,List.append_assoc,yal,yak,true_and,and_true]
 exact ⟨aa kg,gD,vo⟩
theorem hG {n:Nat} (x:SStage):AV.lt n (aO x):=by
 simp only [aO,znr,znu,znv,znf,znh,zng,lv,jB,List.append_assoc,yal,yak,true_and,and_true]
theorem ge {n:Nat} (x:SGrant):AV.lt n (aJ x):=by
 simp only [aJ,znr,znu,znv,znf,znh,zng,lv,jB,List.append_assoc,yal,yak,true_and,and_true]
 exact Io
theorem gQ {n:Nat} (x:SRole):AV.lt n (aN x):=by
 simp only [aN,znr,znu,znv,znf,znh,zng,lv,jB,List.append_assoc,yal,yak,true_and,and_true]
 exact ⟨aa ge,gD⟩
theorem jO {n:Nat} (x:SRef):AV.lt n (bh x):=by
 simp only [bh,znr,znu,znv,znf,znh,zng,lv,jB,List.append_assoc,yal,yak,true_and,and_true]
theorem sU {n:Nat} (x:Sch):AV.lt n (eJ x):=by
 simp only [eJ,aS,znr,znu,znv,znf,true_and,and_true]
 exact ⟨aa gL,aa fG,aa ey,aa eS,aa cX,aa hG,aa gQ,aa jO⟩
theorem Pt {b:List UInt8} {u n:Nat} (h:0<n):(0≤((cv b u n:Nat):Int)∧((cv b u n:Nat):Int)<(n:Int))=True:=eq_true ⟨by omega,by have:=l7 (b:=b) (v:=u) h;omega⟩
def eG (g:List UInt8→Nat→AV × Nat):ECt
 |[.ptr id 0],H,K=>onC (H.get id) fun b v=>K (.ret (g b v).1) (H.set id (iu b (g b v).2))
 |_,_,_=>False
def s9:=eG fun b v=>(.slice .any 5 ((dH b v).1.map aB),(dH b v).2)
theorem BS:EEe 20 s9:=by
 unfold s9
 refine Yef fun _ H K h=>?_
 unfold eG at h
 split at h<;>try exact h.elim
 rename_i id
 obtain ⟨b,v,hg,hb,hv,hK⟩:=oB h
 refine ⟨_,_,hK,?_⟩
 clear hK
 refine Yfw aC (tCq nO (tCq nI tNq)) Tryz.func20 [.tmp 2] (nrq _) (T:=aA [(5,[[],[],[],[],[],[3],[],[],[],[],[3],[],[3,10],[],[3,10,12],[1,3,10,12],[],[1,3,10,12]]),(10,[[16]])]) (h:=fun hcl=>?_)
 have hid:=glq hg
 have hne:=tp hid
 have hgc:=pH (b:=b) hid
 have hcl2:∀ w,(H.set id (iu b w)).Closed:=fun w=>bI hcl m0
 have c4:∀ u,(0≤((cv b u 4:Nat):Int)∧((cv b u 4:Nat):Int)<((4:Nat):Int))=True:=fun u=>Pt (by decide)
 simp only [go_sem,dq,cV,hg,hgc,dp hb,eu,cO,eN,hne,lk,c4,iNq]
 have w8:∀ u,IntKind.u64.wrap (IntKind.i64.wrap (8*((cv b u 2:Nat):Int)))=((8*cv b u 2:Nat):Int):=fun u=>by
  have:=l7 (b:=b) (v:=u) (n:=2) (by decide)
  rw [wrap_i64 (by omega) (by omega),jS (by omega) (by omega)];omega
 have w1:∀ u,IntKind.i64.wrap (1+((cv b u 3:Nat):Int))=1+((cv b u 3:Nat):Int):=fun u=>by
  have:=l7 (b:=b) (v:=u) (n:=3) (by decide)
  rw [wrap_i64 (by omega) (by omega)]
 have hvs:∀ u,vc (8*cv b u 2)=[.int .u64 0,.int .u64 ((8*cv b u 2:Nat):Int)]:=fun u=>pd (by
  have:=l7 (b:=b) (v:=u) (n:=2) (by decide)
  omega)
 refine ⟨by decide,ay (fun h1=>?_) (fun h1=>?_)⟩
 ·have h1':cv b (v+1) 2=1:=of_decide_eq_true h1
  refine Tq11 ?_
  refine ⟨by decide,by decide,⟨by simp [ziq,zgq,zgr,zgs],by decide,by decide,ay (fun h2=>?_) (fun h2=>?_)⟩⟩
  ·have h2':cv b (v+5) 3=1:=by simp [cp] at h2;omega
   refine Tq11 ?_
   refine ⟨by decide,?_⟩
   refine lc 2 (.slice .any 5 ((dH b v).1.map aB)) ?_ ?_
   ·exact Z4
   ·have e:(dH b v).2=cp v 7:=by unfold dH;simp only [h1',h2',if_true,if_false];rfl
    exact Y40
  ·have h2':¬ cv b (v+5) 3=1:=by simp [cp] at h2;omega
   refine Tq11 ?_
   refine lc 2 (.slice .any 5 ((dH b v).1.map aB)) ?_ ?_
   ·exact Z4
   ·have e:(dH b v).2=cp v 6:=by unfold dH;simp only [h1',h2',if_true,if_false];rfl
    exact Y40
 ·have h1':¬ cv b (v+1) 2=1:=of_decide_eq_false h1
  refine Tq11 ?_
  refine ⟨by decide,by decide,ay (fun h2=>?_) (fun h2=>?_)⟩
  ·have h2':cv b (v+3) 3=1:=by simp [cp] at h2;omega
   refine Tq11 ?_
   refine ⟨by decide,?_⟩
   refine lc 2 (.slice .any 5 ((dH b v).1.map aB)) ?_ ?_
   ·exact Z4
   ·have e:(dH b v).2=cp v 5:=by unfold dH;simp only [h1',h2',if_true,if_false];rfl
    exact Y40
  ·have h2':¬ cv b (v+3) 3=1:=by simp [cp] at h2;omega
   refine Tq11 ?_
   refine lc 2 (.slice .any 5 ((dH b v).1.map aB)) ?_ ?_
   ·exact Z4
   ·have e:(dH b v).2=cp v 4:=by unfold dH;simp only [h1',h2',if_true,if_false];rfl
    exact Y40
theorem BE:tSl Tryz.prog 115 9:=kSl
theorem AZ:tSl Tryz.prog 116 115:=kSl
attribute [go_sem] BE AZ
def JnT {α:Type} (F:α→Fr) (G:α→AHeap) (I:α→Prop) (K:Fr→AHeap→Prop):Prop:=∀ x,I x→K (F x) (G x)
theorem jh {α:Type} (F:α→Fr) (G:α→AHeap) (I:α→Prop) {K:Fr→AHeap→Prop} {C:Prop} (h:JnT F G I K→C) (hJ:JnT F G I K):C:=h hJ
theorem bF {α:Type} {F:α→Fr} {G:α→AHeap} {I:α→Prop} {n0:Nat} {K:Fr→AHeap→Prop} {fr:Fr} {H:AHeap} (J:JnT F G I K) (x:α) (hx:I x) (he:enterW n0 fr H (F x) (G x)):mL n0 K fr H:=s7 _ _ he (J x hx)
theorem Bi {F:Nat × AHeap→Fr} {I:Nat × AHeap→Prop} {n0 s id off sz len:Nat} {K:Fr→AHeap→Prop} {fr:Fr} {H:AHeap} (J:JnT F (fun x=>x.2) (fun x=>x.2.Closed∧I x) K) (hs:Fr.get fr s=.ms id off sz len) (hc:H.Closed) (hx:I (id,H)) (hn:n0≤H.nx) (hl:ltF H.nx (F (id,H))) (hw:bn H H (F (id,H)) fr):mL n0 K fr H:=s7 _ _ ⟨hn,lRq _,hc,hl,hw⟩ (J _ ⟨hc,hx⟩)
theorem w6 {n0 s id off sz len:Nat} {K:Fr→AHeap→Prop} {fr:Fr} {H:AHeap} {cs:List AV} (cs':List AV) (hs:Fr.get fr s=.ms id off sz len) (hc:aW H id=some cs) (h:oO cs cs') (hk:K fr (H.set id (.cells cs'))):mL n0 K fr H:=il id cs' hc h hk
structure But (id:Nat) (H Hc:AHeap):Prop where
 nx:H.nx≤Hc.nx
 get:∀ j x,j≠id→H.get j=some x→Hc.get j=some x
theorem But.push {id:Nat} {H Hc:AHeap} (h:But id H Hc) (o:AObj):But id H (Hc.push o):=⟨by rw [zle];exact Nat.le_succ_of_le h.nx,fun j x hj hx=>by
 have:=h.get j x hj hx
 rw [gPq _ _ (glq this)];exact this⟩
theorem But.set {id i:Nat} {H Hc:AHeap} (h:But id H Hc) (o:AObj) (hi:i=id∨H.nx≤i):But id H (Hc.set i o):=⟨by rw [zlf];exact h.nx,fun j x hj hx=>by
 have hlt:=glq hx
 rw [AHeap.get_set_ne _ _ (by rcases hi with rfl|hi<;>omega)]
 exact h.get j x hj hx⟩
theorem But.del {id i:Nat} {H Hc:AHeap} (h:But id H Hc) (hi:H.nx≤i):But id H (Hc.del i):=⟨by rw [lS];exact h.nx,fun j x hj hx=>by
 have hlt:=glq hx
 rw [ot,if_neg (by omega)]
 exact h.get j x hj hx⟩
theorem But.self {id:Nat} {H:AHeap}:But id H H:=⟨nrq _,fun _ _ _ h=>h⟩
theorem But.le {id:Nat} {H Hc:AHeap} {o:AObj} (h:But id H Hc) (hg:Hc.get id=some o):(H.set id o).Le Hc:=NF h.get hg h.nx
theorem wQ {H:AHeap} {i j:Nat} {o o':AObj} (h:i≠j):(H.set i o).set j o'=(H.set j o').set i o:=by
 simp only [AHeap.set,AHeap.mk.injEq,true_and]
 funext k
 by_cases h1:k=i
 ·subst h1;simp [h]
 ·simp [h1]
theorem LC {H:AHeap} {i:Nat} {o o':AObj}:(H.set i o).set i o'=H.set i o':=by
 simp only [AHeap.set,AHeap.mk.injEq,true_and]
 funext k
 by_cases h1:k=i<;>simp [h1]
def Ge (b:List UInt8) (v k:Nat):List STable:=(fy b v).take k++((fy b v).drop k).map fun t=>{ t with restr:=[] }
def wF (b:List UInt8) (v k:Nat):List AV:=(Ge b v k).flatMap fun t=>(ax t).cells
theorem zr {α:Type} {n:Nat} {f:α→AV} {l:List α} (h:∀ x,AV.lt n (f x)):ltL n (l.flatMap fun x=>(f x).cells):=ltL_iff.2 fun j hj=>by
 obtain ⟨x,_,hx⟩:=List.mem_flatMap.1 (gMq hj)
 obtain ⟨k,hk,e⟩:=List.mem_iff_getElem.1 hx
 rw [← e];exact AV.lt_cells (h x) k hk
theorem pg {α:Type} {sz:Nat} (h1:sz≠1) (f:α→List AV) (hf:∀ x,(f x).length=sz):∀ l:List α,dM sz l.length (l.flatMap f)=l.map fun x=>.agg (f x)
 |[]=>rfl
 |x::l=>by
  rw [yaz,List.flatMap_cons,dM,if_neg h1,yae,show (f x++l.flatMap f).drop sz=l.flatMap f by rw [← hf x,List.drop_left],pg h1 f hf l]
  congr 2
  apply List.ext_getElem
  ·simp [hf]
  ·intro j a1 a2
   simp only [List.getElem_map,List.getElem_range]
   rw [gEq,List.getElem?_append_left a2,gQq a2];rfl
def oM:AV:=.slice .any 1 [.slice .any 1 (gText0.map .str),.slice .any 1 (gText1.map .str),.slice .any 1 (gText2.map .str),.slice .any 1 (gText3.map .str)]
def sm:=eG fun b v=>(.slice .any 8 ((fy b v).map ax),v+12)
theorem B0:EEe 22 sm:=by
 unfold sm
 refine Yef fun _ H K h=>?_
 unfold eG at h
 split at h<;>try exact h.elim
 rename_i id
 obtain ⟨b,v,hg,hb,hv,hK⟩:=oB h
 refine ⟨_,_,hK,?_⟩
 clear hK
 refine Yfw aC (tCq nO (tCq nI tNq)) Tryz.func22 [.tmp 2] (nrq _) (T:=aA [(16,[[],[],[],[],[],[],[],[],[],[7],[],[],[5,7,9]]),(11,[[14]]),(13,[[1,1,1]])]) (h:=fun hcl=>?_)
 have hid:=glq hg
 have hne:=tp hid
 have hne2:=tp (show id<H.nx+1+1+1+1+1+1+1+1+1+1+1+1+1+1+1+1 by omega)
 have hgc:=pH (b:=b) hid
 have hcl2:∀ w,(H.set id (iu b w)).Closed:=fun w=>bI hcl m0
 have c3:∀ u,(0≤((cv b u 3:Nat):Int)∧((cv b u 3:Nat):Int)<((3:Nat):Int))=True:=fun u=>Pt (by decide)
 have w1:∀ (u n:Nat) (k:Int),0<n→n≤100→0≤k→k≤100→IntKind.i64.wrap (k+((cv b u n:Nat):Int))=k+((cv b u n:Nat):Int):=fun u n k h1 h2 h3 h4=>by
  exact Y127
 have e2:(2:Int).toNat=2:=rfl
 have e5:(5:Int).toNat=5:=rfl
 have e6:(6:Int).toNat=6:=rfl
 have e3:(3:Int).toNat=3:=rfl
 have a12:∀ u,IntKind.i64.wrap (1+((cv b u 2:Nat):Int))=1+((cv b u 2:Nat):Int):=fun u=>w1 u 2 1 (by decide) (by decide) (by decide) (by decide)
 have a25:∀ u,IntKind.i64.wrap (2+((cv b u 5:Nat):Int))=2+((cv b u 5:Nat):Int):=fun u=>w1 u 5 2 (by decide) (by decide) (by decide) (by decide)
 have a36:∀ u,IntKind.i64.wrap (3+((cv b u 6:Nat):Int))=3+((cv b u 6:Nat):Int):=fun u=>w1 u 6 3 (by decide) (by decide) (by decide) (by decide)
 have a46:∀ u,IntKind.i64.wrap (4+((cv b u 6:Nat):Int))=4+((cv b u 6:Nat):Int):=fun u=>w1 u 6 4 (by decide) (by decide) (by decide) (by decide)
 have a35:∀ u,IntKind.i64.wrap (3+((cv b u 5:Nat):Int))=3+((cv b u 5:Nat):Int):=fun u=>w1 u 5 3 (by decide) (by decide) (by decide) (by decide)
 simp only [go_sem,dq,cV,hg,hgc,dp hb,eu,cO,eN,hne,e2,e3,e5,e6,a12,a25,a36,a46,a35]
 apply jh (α:=Nat × AHeap) (fun x=>[(0,.ptr id 0),(7,.ms x.1 0 8 4),(8,oM)]) (fun x=>x.2) (fun x=>x.2.Closed∧H.nx≤x.1∧x.1<x.2.nx∧But id H x.2∧x.2.get id=some (iu b (cp v 8))∧x.2.get x.1=some (.cells (wF b v 0)))
 ·intro J
  refine Tq3 ?_
  refine ay (fun h1=>?_) (fun h1=>?_)
  all_goals
   simp only [bo,aF,bhq,Nat.reduceMod,Nat.reduceDiv,aZ,ba,bf,bD,bc,bC,bz,bB,bA,yaq,yar,yao,yap,go_sem,dq,cV,hg,hgc,dp hb,eu,cO,eN,hne,e2,e3,e5,e6,a12,a25,a36,a46,a35]
   refine Tq3 ?_
   refine ay (fun h2=>?_) (fun h2=>?_)
  all_goals
   simp only [bo,aF,bhq,Nat.reduceMod,Nat.reduceDiv,aZ,ba,bf,bD,bc,bC,bz,bB,bA,yaq,yar,yao,yap,go_sem,dq,cV,hg,hgc,dp hb,eu,cO,eN,hne,e2,e3,e5,e6,a12,a25,a36,a46,a35]
   refine Tq3 ?_
   refine ay (fun h3=>?_) (fun h3=>?_)
  all_goals
   simp only [bo,aF,bhq,Nat.reduceMod,Nat.reduceDiv,aZ,ba,bf,bD,bc,bC,bz,bB,bA,yaq,yar,yao,yap,go_sem,dq,cV,hg,hgc,dp hb,eu,cO,eN,hne,e2,e3,e5,e6,a12,a25,a36,a46,a35]
   refine Tq3 ?_
   refine w6 (s:=7) (wF b v 0) rfl (by simp only [go_sem];rfl) ?_ ?_
   ·first|replace h1:=of_decide_eq_true h1|replace h1:=of_decide_eq_false h1
    first|replace h2:=of_decide_eq_true h2|replace h2:=of_decide_eq_false h2
    first|replace h3:=of_decide_eq_true h3|replace h3:=of_decide_eq_false h3
    simp only [cp] at h1 h2 h3
    simp [wF,Ge,fy,lJ,lB,gy,gC,ax,aY,inL,vv,h1,h2,h3,cp,AV.cells,mV,eb,d7,eO,iP,eQ,mc,md,lL,wkM]
   refine lc 8 oM ?_ ?_
   ·simp [Fr.get,oM,gText0,gText1,gText2,gText3,AV.cells,eb,d7,eO,iP,eQ,md,wkM]
   refine Bi (s:=7) J rfl ?_ ?_ (by (try simp only [zkv,zkq,jJ,zle,zlf]);omega) ?_ ?_
   ·repeat' (first|exact hcl2 _|refine bg ?_|refine bI ?_ ?_|refine ah ?_ ?_)
    all_goals first|exact zr fun _=>cX _|(simp [cL,znu,znv,znf,znh,zng,znr,AV.cells,yal,yak,zle,zlf];try omega)
   ·dsimp only
    refine ⟨by (try simp only [zle,zlf]);omega,by (try simp only [zle,zlf]);omega,?_,?_,?_⟩
    ·repeat (first|exact But.self|refine But.push ?_ _|refine But.set ?_ _ (by first|exact .inl rfl|exact .inr (by (try simp only [zle,zlf]);omega)))
    ·simp only [go_sem,hne,hne2,hgc,cp]
    ·simp only [go_sem]
   ·simp [ltF,znn,znp,oM,gText0,gText1,gText2,gText3,znh,cL,znu,znv,zle,zlf]
    try omega
   ·simp [bn,wk2,wk1,wkM,Fr.get,oM]
 ·rintro ⟨i,Hc⟩ ⟨q3,q1,q2,q4,q5,q6⟩
  dsimp only at q1 q2 q3 q4 q5 q6 ⊢
  have hii:i≠id:=by omega
  have gtx:∀ u x y z,([AV.str x,.str y,.str z]:List AV).getD (cv b u 3) .junk=.str ([x,y,z].getD (cv b u 3) []):=fun u x y z=>by
   have:=l7 (b:=b) (v:=u) (n:=3) (by decide)
   rcases (by omega:cv b u 3=0∨cv b u 3=1∨cv b u 3=2) with e|e|e<;>rw [e]<;>rfl
  have hic:id<Hc.nx:=glq q5
  have hci:∀ C w,aW ((Hc.set i (.cells C)).set id (iu b w)) i=some C:=fun C w=>aM (by
   rw [AHeap.get_set_ne _ _ hii,AHeap.get_set_same _ _ q2])
  have hgd:∀ C w,((Hc.set i (.cells C)).set id (iu b w)).get id=some (iu b w):=fun C w=>AHeap.get_set_same _ _ (by rw [zlf];exact hic)
  have hsi:∀ C C' w,((Hc.set i (.cells C)).set id (iu b w)).set i (.cells C')=(Hc.set i (.cells C')).set id (iu b w):=fun C C' w=>by
   rw [← wQ hii,LC,wQ hii]
  have hsd:∀ C w w',((Hc.set i (.cells C)).set id (iu b w)).set id (iu b w')=(Hc.set i (.cells C)).set id (iu b w'):=fun C w w'=>EK
  have hclo:∀ k w,((Hc.set i (.cells (wF b v k))).set id (iu b w)).Closed:=fun k w=>bI (bI q3 (zr fun _=>cX _)) m0
  simp only [bhq,Nat.reduceMod,Nat.reduceDiv,aZ,ba,bf,bD,bc,bC,bz,bB,bA,yaq,yar,yao,yap,go_sem]
  refine aD (A:=Nat) (fun k=>[(0,.ptr id 0),(7,.ms i 0 8 4),(8,oM),(80,.int .i64 4),(81,.int .i64 (k:Int))]) (fun k=>(Hc.set i (.cells (wF b v k))).set id (iu b (cp v (8+k)))) (fun k=>k≤4) (fun k=>4 - k) 0 (by omega) ?_ fun k hk=>?_
  ·refine ⟨by simp only [zlf,zkq,zkv];have:=q4.nx;omega,?_,hclo _ _,?_,?_⟩
   ·exact ((ox (by rw [AHeap.get_set_ne _ _ (fun e=>hii e.symm)];exact q5)).trans (ox q6))
   ·simp [ltF,znn,znp,znf,oM,gText0,gText1,gText2,gText3,znh,cL,znu,znv,zlf]
    omega
   ·simp [bn,wk2,wk1,wkM,Fr.get,oM]
  refine Tq15 ?_
  refine ay (fun hc=>?_) (fun hc=>?_)
  ·have hk4:k<4:=sHc
   have c3':∀ u,(0≤((cv b u 3:Nat):Int)∧((cv b u 3:Nat):Int)<((3:Nat):Int)):=fun u=>of_eq_true (c3 u)
   have e4:IntKind.i64.wrap ((k:Int)+1)=((k+1:Nat):Int):=by rw [wrap_i64]<;>omega
   rcases (by omega:k=0∨k=1∨k=2∨k=3) with rfl|rfl|rfl|rfl
   ·refine Tq12 ?_
    refine ⟨by decide,by decide,by decide,1,by decide,by decide,by simp only [zlf,zkq,zkv];have:=q4.nx;omega,lRq _,hclo 1 _,?_,?_⟩
    ·exact Y129
    ·exact Y14
   ·refine Tq12 ?_
    refine ⟨by decide,by decide,by decide,2,by decide,by decide,by simp only [zlf,zkq,zkv];have:=q4.nx;omega,lRq _,hclo 2 _,?_,?_⟩
    ·exact Y129
    ·exact Y14
   ·refine Tq12 ?_
    refine ⟨by decide,by decide,by decide,3,by decide,by decide,by simp only [zlf,zkq,zkv];have:=q4.nx;omega,lRq _,hclo 3 _,?_,?_⟩
    ·exact Y129
    ·exact Y14
   ·refine Tq12 ?_
    refine ⟨by decide,by decide,by decide,4,by decide,by decide,by simp only [zlf,zkq,zkv];have:=q4.nx;omega,lRq _,hclo 4 _,?_,?_⟩
    ·exact Y129
    ·exact Y14
  ·have hk4:k=4:=sHc
   subst hk4
   refine Tq15 ?_
   have hr:dM 8 4 (wF b v 4)=(fy b v).map ax:=pg (by decide) (fun t=>(ax t).cells) (fun _=>rfl) (fy b v)
   refine ⟨?_,?_,hcl2 _,aa cX⟩
   ·simp only [wk,wk2,wk1,hci,yap,hr,true_or,true_and]
    rw [zmv (by rw [zlf];exact q1)]
   ·exact ((q4.set _ (.inr q1)).set _ (.inl rfl)).le (hgd _ _)
def qS:=eG fun b v=>(.slice .any 5 ((fZ b v).map ap),v+4)
def FV (b:List UInt8) (v:Nat) (r1 r2:Bool):List AV:=((fZ b v).map fun a=>(⟨a.id,a.name,a.params,a.body,if a.id=3∧r1=true then [112,111,114,116,32,33,61,32,48] else if a.id=5∧r2=true then [120,32,60,32,121,32,124,124,32,120,32,61,61,32,49,53] else []⟩:SAction)).flatMap fun a=>(ap a).cells
theorem JQ {b:List UInt8} {v:Nat}:FV b v (decide (cv b (v+2) 2=1)) (decide (cv b (v+3) 2=1))=(fZ b v).flatMap fun a=>(ap a).cells:=by
 by_cases h1:cv b (v+2) 2=1<;>by_cases h2:cv b (v+3) 2=1<;>simp [FV,fZ,ap,AV.cells,h1,h2]
theorem AD:EEe 21 qS:=by
 unfold qS
 refine Yef fun _ H K h=>?_
 unfold eG at h
 split at h<;>try exact h.elim
 rename_i id
 obtain ⟨b,v,hg,hb,hv,hK⟩:=oB h
 refine ⟨_,_,hK,?_⟩
 clear hK
 dsimp only
 generalize hres:AV.slice .any 5 ((fZ b v).map ap)=res
 refine Yfw aC (tCq nO (tCq nI tNq)) Tryz.func21 [.tmp 2] (nrq _) (T:=aA [(2,[[],[],[],[],[],[],[],[],[],[],[],[],[],[],[],[],[],[],[],[],[],[],[],[],[],[],[],[],[],[],[],[],[],[29],[29,33],[],[],[],[29,33],[],[6,12,22,29,33]]),(802,[[100002],[100005],[100008],[100011],[100016],[100020],[100026],[100044]]),(1202,[[40]]),(3,[[1]])]) (h:=fun hcl=>?_)
 have hid:=glq hg
 have hne:=tp hid
 have hne2:=tp (show id<H.nx+1+1+1+1+1+1+1+1+1+1+1+1+1+1+1+1 by omega)
 have hgc:=pH (b:=b) hid
 have hcl2:∀ w,(H.set id (iu b w)).Closed:=fun w=>bI hcl m0
 have e2:(2:Int).toNat=2:=rfl
 have e256:(256:Int).toNat=256:=rfl
 have a22:∀ u,IntKind.i64.wrap (2+((cv b u 2:Nat):Int))=2+((cv b u 2:Nat):Int):=fun u=>by
  have:=l7 (b:=b) (v:=u) (n:=2) (by decide)
  rw [wrap_i64 (by omega) (by omega)]
 have u256:∀ u,IntKind.u64.wrap ((cv b u 256:Nat):Int)=((cv b u 256:Nat):Int):=fun u=>by
  have:=l7 (b:=b) (v:=u) (n:=256) (by decide)
  rw [jS (by omega) (by omega)]
 simp only [go_sem,dq,cV,hg,hgc,dp hb,eu,cO,eN,hne,hne2,e2,e256,a22,u256]
 refine Tq3 ?_
 refine Tq38 ?_
 refine w6 (s:=4) (FV b v false false) rfl (by simp only [go_sem];rfl) ?_ ?_
 ·simp [FV,fZ,ap,aK,aT,vc,cp,AV.cells,mV,eb,d7,eO,iP,eQ,mc,md,lL,wkM]
  have:=l7 (b:=b) (v:=v+1) (n:=256) (by decide)
  omega
 refine Tq38 ?_
 refine ay (fun h1=>?_) (fun h1=>?_)
 all_goals
  simp only [bo,aF,bhq,Nat.reduceMod,Nat.reduceDiv,aZ,ba,bf,bD,bc,bC,bz,bB,bA,yaq,yar,yao,yap,go_sem,dq,cV,hg,hgc,dp hb,eu,cO,eN,hne,hne2,e2,e256,a22,u256,FV,fZ,List.flatMap_cons,List.flatMap_nil,ap,AV.cells,yal,yak]
  refine Tq3 ?_
  refine ay (fun h2=>?_) (fun h2=>?_)
 all_goals
  try simp only [bo,aF,bhq,Nat.reduceMod,Nat.reduceDiv,aZ,ba,bf,bD,bc,bC,bz,bB,bA,yaq,yar,yao,yap,go_sem,dq,cV,hg,hgc,dp hb,eu,cO,eN,hne,hne2,e2,e256,a22,u256,FV,fZ,List.flatMap_cons,List.flatMap_nil,ap,AV.cells,yal,yak]
  refine Tq3 ?_
  have hA:=JQ (b:=b) (v:=v)
  rw [show decide (cv b (v+2) 2=1)=_ from h1,show decide (cv b (v+3) 2=1)=_ from h2] at hA
  have hr:=pg (sz:=5) (by decide) (fun t=>(ap t).cells) (fun _=>rfl) (fZ b v)
  rw [← hA] at hr
  subst hres
  refine ⟨?_,?_,hcl2 _,aa eS⟩
  ·simp only [wk,wk2,wk1,go_sem,yap,true_or,true_and]
   refine ⟨?_,?_⟩
   ·exact hr.symm
   ·rw [zmv (by (try simp only [zlf]);omega)]
  ·refine But.le (id:=id) ?_ ?_
   ·repeat (first|exact But.self|refine But.push ?_ _|refine But.set ?_ _ (by first|exact .inl rfl|exact .inr (by (try simp only [zle,zlf]);omega)))
   ·simp only [go_sem,hne,hne2,hgc,cp]
end Go.AL
