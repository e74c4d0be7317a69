/- Lemmas of the proof; no condition. -/
import Derived.Test.YthnlhjalhflgfaaGreatS10z
import Derived.Test.YthnlhjalhflgfaaGreatLVal
import Derived.Test.YthnlhjalhflgfaaGreatLSch2
set_option linter.all false
set_option maxRecDepth 10000
set_option maxHeartbeats 32000000
open List renaming length_cons → yaz, length_nil → yba, take_of_length_le → ybc, drop_append → ybd, take_append → ybe, drop_eq_nil_of_le → ybf, cons_append → yal, nil_append → yak, take_succ_cons → yaq, take_zero → yar, drop_succ_cons → yao, drop_zero → yap, map_cons → yae
open Go Go.AL Go.Proofs
namespace Go.AL
theorem KS:ti Tryz.prog 3=some ⟨.int .i64,1,8,.int .i64 0⟩:=by kernel_rfl
theorem Ch:ti Tryz.prog 45=some ⟨.struct [(0,3,false),(1,9,false),(2,3,false)],3,32,.agg [.int .i64 0,.str [],.int .i64 0]⟩:=by kernel_rfl
theorem xN:ti Tryz.prog 69=some ⟨.struct [(0,3,false),(1,9,false),(2,23,false)],3,48,.agg [.int .i64 0,.str [],.slice .nil 1 []]⟩:=by kernel_rfl
theorem DW:ti Tryz.prog 108=some ⟨.struct [(0,106,false),(2,106,false),(4,3,false)],5,40,.agg [.int .u64 0,.int .u64 0,.int .u64 0,.int .u64 0,.int .i64 0]⟩:=by kernel_rfl
theorem AR:ti Tryz.prog 81=some ⟨.struct [(0,3,false),(1,3,false),(2,3,false),(3,79,false),(4,3,false)],5,56,.agg [.int .i64 0,.int .i64 0,.int .i64 0,.slice .nil 1 [],.int .i64 0]⟩:=by kernel_rfl
theorem FY:ti Tryz.prog 112=some ⟨.struct [(0,3,false),(1,3,false),(2,110,false)],6,48,.agg [.int .i64 0,.int .i64 0,.int .i64 0,.int .i64 0,.int .u64 0,.int .u64 0]⟩:=by kernel_rfl
theorem vT:ti Tryz.prog 110=some ⟨.struct [(0,3,false),(1,3,false),(2,106,false)],4,32,.agg [.int .i64 0,.int .i64 0,.int .u64 0,.int .u64 0]⟩:=by kernel_rfl
theorem Bm:ti Tryz.prog 114=some ⟨.struct [(0,9,false),(1,3,false)],2,24,.agg [.str [],.int .i64 0]⟩:=by kernel_rfl
theorem xq:ti Tryz.prog 86=some ⟨.struct [(0,3,false),(1,9,false),(2,83,false),(3,84,false),(4,9,false)],5,88,.agg [.int .i64 0,.str [],.slice .nil 1 [],.slice .nil 1 [],.str []]⟩:=by kernel_rfl
theorem Jg:ti Tryz.prog 53=some ⟨.struct [(0,9,false),(1,3,false),(2,3,false)],3,32,.agg [.str [],.int .i64 0,.int .i64 0]⟩:=by kernel_rfl
theorem Az:ti Tryz.prog 57=some ⟨.struct [(0,3,false),(1,9,false),(2,54,false),(3,23,false),(4,3,false),(5,55,false),(6,3,false),(7,9,false)],8,128,.agg [.int .i64 0,.str [],.slice .nil 1 [],.slice .nil 1 [],.int .i64 0,.slice .nil 1 [],.int .i64 0,.str []]⟩:=by kernel_rfl
theorem BA:ti Tryz.prog 75=some ⟨.struct [(0,3,false),(1,3,false)],2,16,.agg [.int .i64 0,.int .i64 0]⟩:=by kernel_rfl
theorem BU:ti Tryz.prog 119=some ⟨.struct [(0,3,false),(1,4,false),(2,4,false),(3,117,false)],4,40,.agg [.int .i64 0,.bool false,.bool false,.slice .nil 1 []]⟩:=by kernel_rfl
theorem C4:ti Tryz.prog 48=some ⟨.struct [(0,3,false),(1,9,false),(2,46,false),(3,23,false),(4,3,false),(5,4,false)],6,88,.agg [.int .i64 0,.str [],.slice .nil 1 [],.slice .nil 1 [],.int .i64 0,.bool false]⟩:=by kernel_rfl
theorem Iu:ti Tryz.prog 50=some ⟨.struct [(0,3,false),(1,3,false),(2,3,false),(3,3,false),(4,3,false),(5,3,false)],6,48,.agg [.int .i64 0,.int .i64 0,.int .i64 0,.int .i64 0,.int .i64 0,.int .i64 0]⟩:=by kernel_rfl
theorem xw:ti Tryz.prog 34=some ⟨.struct [(0,25,false),(1,26,false),(2,27,false),(3,28,false),(4,29,false),(5,30,false),(6,31,false),(7,32,false),(8,3,false),(9,3,false)],10,208,.agg [.slice .nil 1 [],.slice .nil 1 [],.slice .nil 1 [],.slice .nil 1 [],.slice .nil 1 [],.slice .nil 1 [],.slice .nil 1 [],.slice .nil 1 [],.int .i64 0,.int .i64 0]⟩:=by kernel_rfl
theorem AA:ti Tryz.prog 25=some ⟨.slice 45,1,24,.slice .nil 1 []⟩:=by kernel_rfl
theorem yp:ti Tryz.prog 26=some ⟨.slice 69,1,24,.slice .nil 1 []⟩:=by kernel_rfl
theorem H9:ti Tryz.prog 79=some ⟨.slice 108,1,24,.slice .nil 1 []⟩:=by kernel_rfl
theorem Bt:ti Tryz.prog 27=some ⟨.slice 81,1,24,.slice .nil 1 []⟩:=by kernel_rfl
theorem FF:ti Tryz.prog 84=some ⟨.slice 112,1,24,.slice .nil 1 []⟩:=by kernel_rfl
theorem Bh:ti Tryz.prog 83=some ⟨.slice 114,1,24,.slice .nil 1 []⟩:=by kernel_rfl
theorem xG:ti Tryz.prog 28=some ⟨.slice 86,1,24,.slice .nil 1 []⟩:=by kernel_rfl
theorem I1:ti Tryz.prog 54=some ⟨.slice 53,1,24,.slice .nil 1 []⟩:=by kernel_rfl
theorem A9:ti Tryz.prog 29=some ⟨.slice 57,1,24,.slice .nil 1 []⟩:=by kernel_rfl
theorem Bn:ti Tryz.prog 30=some ⟨.slice 75,1,24,.slice .nil 1 []⟩:=by kernel_rfl
theorem Bz:ti Tryz.prog 46=some ⟨.slice 119,1,24,.slice .nil 1 []⟩:=by kernel_rfl
theorem D1:ti Tryz.prog 31=some ⟨.slice 48,1,24,.slice .nil 1 []⟩:=by kernel_rfl
theorem IX:ti Tryz.prog 32=some ⟨.slice 50,1,24,.slice .nil 1 []⟩:=by kernel_rfl
theorem JU:ti Tryz.prog 55=some ⟨.slice 106,1,24,.slice .nil 1 []⟩:=by kernel_rfl
theorem K5:ti Tryz.prog 23=some ⟨.slice 3,1,24,.slice .nil 1 []⟩:=by kernel_rfl
theorem Dw:ti Tryz.prog 117=some ⟨.slice 4,1,24,.slice .nil 1 []⟩:=by kernel_rfl
attribute [go_sem] KS Ch xN DW AR FY vT Bm xq Jg Az BA BU C4 Iu xw AA yp H9 Bt FF Bh xG I1 A9 Bn Bz D1 IX JU K5 Dw
def bT:List AV→AHeap→(AEnd→AHeap→Prop)→Prop
 |[.ptr id 0],H,K=>onC (H.get id) fun b v=>K (.ret (.bool (decide (cv b v 2=1)))) (H.set id (ex b (v+1)))
 |_,_,_=>False
theorem kX:EntOk Tryz.prog 24 (Ent.effect bT):=by
 refine EntOk.effect fun args H K h=>?_
 unfold bT at h
 split at h
 rotate_left
 ·exact h.elim
 rename_i id
 obtain ⟨b,v,hg,hb,hv,hK⟩:=lC h
 refine ⟨_,_,hK,?_⟩
 clear hK
 refine ACalls.fW ap (tCq kN tNq) Tryz.func24 [.tmp 2] (nrq _) (T:=aj []) (h:=fun hcl hlt=>?_)
 clear hlt
 have hid:=glq hg
 have hcl2:(H.set id (ex b (v+1))).Closed:=ba hcl jG
 have e2:(2:Int).toNat=2:=rfl
 simp only [go_sem,cj,hg,bW hb,cp,e2,Nat.add_zero,Nat.min_eq_left hv]
 have e:((((cv b v 2:Nat):Int))==1)=decide (cv b v 2=1):=by rw [Bool.eq_iff_iff];simp;omega
 refine ⟨⟨by decide,by decide⟩,?_⟩
 rw [e]
 simp (disch:=first|exact Zd|omega) [↓zmo,beq,ybc,ybd,ybe,aa,wk,wk2,wk1,wkM,wkL,ae,ybf,hcl2]
theorem qv {id n:Nat} (h:id<n):((id=n)=False)∧((id=n+1)=False)∧((id=n+1+1)=False)∧((id=n+1+1+1)=False)∧((id=n+1+1+1+1)=False)∧((id=n+1+1+1+1+1)=False)∧((id=n+1+1+1+1+1+1)=False)∧((id=n+1+1+1+1+1+1+1)=False)∧((id=n+1+1+1+1+1+1+1+1)=False)∧((id=n+1+1+1+1+1+1+1+1+1)=False)∧((id=n+1+1+1+1+1+1+1+1+1+1)=False)∧((id=n+1+1+1+1+1+1+1+1+1+1+1)=False)∧((id=n+1+1+1+1+1+1+1+1+1+1+1+1)=False)∧((id=n+1+1+1+1+1+1+1+1+1+1+1+1+1)=False)∧((id=n+1+1+1+1+1+1+1+1+1+1+1+1+1+1)=False)∧((id=n+1+1+1+1+1+1+1+1+1+1+1+1+1+1+1)=False) :=
 ⟨eq_false (by omega),eq_false (by omega),eq_false (by omega),eq_false (by omega),eq_false (by omega),eq_false (by omega),eq_false (by omega),eq_false (by omega),eq_false (by omega),eq_false (by omega),eq_false (by omega),eq_false (by omega),eq_false (by omega),eq_false (by omega),eq_false (by omega),eq_false (by omega)⟩
theorem mj {H:AHeap} {id:Nat} (h:id<H.nx) (b:List UInt8) (v:Nat):(H.set id (ex b v)).get id=some (ex b v):=AHeap.get_set_same _ _ h
theorem i0 {b:List UInt8} {v:Nat}:([AV.int .i64 0,.int .i64 0,.int .i64 65535,.int .i64 3].getD (cv b v 4) .junk)=.int .i64 (lW (cv b v 4)):=by
 have h:=jA (b:=b) (v:=v) (n:=4) (by decide)
 unfold lW
 generalize cv b v 4=c at *
 match c,h with
 |0,_=>rfl
 |1,_=>rfl
 |2,_=>rfl
 |3,_=>rfl
theorem aZ {α:Type} {n sz:Nat} {f:α→AV} {l:List α} (h:∀ x,AV.lt n (f x)):AV.lt n (.slice .any sz (l.map f)):=uj fun x hx=>by
 obtain ⟨y,_,rfl⟩:=List.mem_map.1 hx
 exact h y
theorem iY {n v:Nat} {l:List AV}:ltL n (vc v++l)=ltL n l:=by simp [vc,znu,znf]
theorem gG {n v:Nat}:ltL n (vc v)=True:=by simp [vc,znu,znv,znf]
theorem rK {n:Nat} {l:List Int}:AV.lt n (.slice .any 1 (inL l)):=aZ fun x=>by simp only [znf]
theorem EO {n:Nat} {l:List Bool}:AV.lt n (.slice .any 1 (boL l)):=aZ fun x=>by simp only [zng]
theorem yu {n:Nat} {l:List Nat}:AV.lt n (.slice .any 2 (l.map vv)):=aZ fun x=>by simp only [vv,znr,znu,znv,znf,and_true]
theorem kU {n:Nat} (x:SField):AV.lt n (aX x):=by
 simp only [aX,znr,znu,znv,znf,znh,zng,iY,gG,List.append_assoc,yal,yak,true_and,and_true]
theorem nc {n:Nat} (x:SHeader):AV.lt n (aH x):=by
 simp only [aH,znr,znu,znv,znf,znh,zng,iY,gG,List.append_assoc,yal,yak,true_and,and_true]
 exact rK
theorem iF {n:Nat} (x:SCase):AV.lt n (cI x):=by
 simp only [cI,znr,znu,znv,znf,znh,zng,iY,gG,List.append_assoc,yal,yak,true_and,and_true]
theorem gf {n:Nat} (x:SState):AV.lt n (aO x):=by
 simp only [aO,znr,znu,znv,znf,znh,zng,iY,gG,List.append_assoc,yal,yak,true_and,and_true]
 exact aZ iF
theorem qR {n:Nat} (x:SPrim):AV.lt n (bV x):=by
 simp only [bV,znr,znu,znv,znf,znh,zng,iY,gG,List.append_assoc,yal,yak,true_and,and_true]
theorem lc {n:Nat} (x:SParam):AV.lt n (bv x):=by
 simp only [bv,znr,znu,znv,znf,znh,zng,iY,gG,List.append_assoc,yal,yak,true_and,and_true]
theorem lg {n:Nat} (x:SAction):AV.lt n (aA x):=by
 simp only [aA,znr,znu,znv,znf,znh,zng,iY,gG,List.append_assoc,yal,yak,true_and,and_true]
 exact ⟨aZ lc,aZ qR⟩
theorem p8 {n:Nat} (x:SKey):AV.lt n (bE x):=by
 simp only [bE,znr,znu,znv,znf,znh,zng,iY,gG,List.append_assoc,yal,yak,true_and,and_true]
theorem eb {n:Nat} (x:STable):AV.lt n (aC x):=by
 simp only [aC,znr,znu,znv,znf,znh,zng,iY,gG,List.append_assoc,yal,yak,true_and,and_true]
 exact ⟨aZ p8,rK,yu⟩
theorem rA {n:Nat} (x:SStage):AV.lt n (bx x):=by
 simp only [bx,znr,znu,znv,znf,znh,zng,iY,gG,List.append_assoc,yal,yak,true_and,and_true]
theorem j3 {n:Nat} (x:SGrant):AV.lt n (bj x):=by
 simp only [bj,znr,znu,znv,znf,znh,zng,iY,gG,List.append_assoc,yal,yak,true_and,and_true]
 exact EO
theorem lN {n:Nat} (x:SRole):AV.lt n (bc x):=by
 simp only [bc,znr,znu,znv,znf,znh,zng,iY,gG,List.append_assoc,yal,yak,true_and,and_true]
 exact ⟨aZ j3,rK⟩
theorem vG {n:Nat} (x:SRef):AV.lt n (bU x):=by
 simp only [bU,znr,znu,znv,znf,znh,zng,iY,gG,List.append_assoc,yal,yak,true_and,and_true]
theorem hY {n:Nat} (x:Sch):AV.lt n (gu x):=by
 simp only [gu,aS,znr,znu,znv,znf,true_and,and_true]
 exact ⟨aZ kU,aZ nc,aZ gf,aZ lg,aZ eb,aZ rA,aZ lN,aZ vG⟩
theorem LU {b:List UInt8} {u n:Nat} (h:0<n):(0≤((cv b u n:Nat):Int)∧((cv b u n:Nat):Int)<(n:Int))=True:=eq_true ⟨by omega,by have:=jA (b:=b) (v:=u) h;omega⟩
def eG (g:List UInt8→Nat→AV × Nat):List AV→AHeap→(AEnd→AHeap→Prop)→Prop
 |[.ptr id 0],H,K=>onC (H.get id) fun b v=>K (.ret (g b v).1) (H.set id (ex b (g b v).2))
 |_,_,_=>False
def pU:=eG fun b v=>(.slice .any 5 ((bL b v).1.map aO),(bL b v).2)
theorem xp:EntOk Tryz.prog 20 (Ent.effect pU):=by
 unfold pU
 refine EntOk.effect fun args H K h=>?_
 unfold eG at h
 split at h
 rotate_left
 ·exact h.elim
 rename_i id
 obtain ⟨b,v,hg,hb,hv,hK⟩:=lC h
 refine ⟨_,_,hK,?_⟩
 clear hK
 refine ACalls.fW ap (tCq kN (tCq kX tNq)) Tryz.func20 [.tmp 2] (nrq _) (T:=aj [(5,[[],[],[],[],[],[3],[],[],[],[],[3],[],[3,10],[],[3,10,12],[1,3,10,12],[],[1,3,10,12]]),(10,[[16]])]) (h:=fun hcl hlt=>?_)
 clear hlt
 have hid:=glq hg
 have hne:=qv hid
 have hgc:=mj (b:=b) hid
 have hcl2:∀ w,(H.set id (ex b w)).Closed:=fun w=>ba hcl jG
 have c4:∀ u,(0≤((cv b u 4:Nat):Int)∧((cv b u 4:Nat):Int)<((4:Nat):Int))=True:=fun u=>LU (by decide)
 simp only [go_sem,cj,bT,hg,hgc,bW hb,cE,bK,cU,hne,i0,c4,iNq]
 have w8:∀ u,IntKind.u64.wrap (IntKind.i64.wrap (8*((cv b u 2:Nat):Int)))=((8*cv b u 2:Nat):Int):=fun u=>by
  have:=jA (b:=b) (v:=u) (n:=2) (by decide)
  rw [wrap_i64 (by omega) (by omega),lk (by omega) (by omega)];omega
 have w1:∀ u,IntKind.i64.wrap (1+((cv b u 3:Nat):Int))=1+((cv b u 3:Nat):Int):=fun u=>by
  have:=jA (b:=b) (v:=u) (n:=3) (by decide)
  rw [wrap_i64 (by omega) (by omega)]
 have hvs:∀ u,vc (8*cv b u 2)=[.int .u64 0,.int .u64 ((8*cv b u 2:Nat):Int)]:=fun u=>l8 (by
  have:=jA (b:=b) (v:=u) (n:=2) (by decide)
  omega)
 refine ⟨by decide,ak (fun h1=>?_) (fun h1=>?_)⟩
 ·have h1':cv b (v+1) 2=1:=of_decide_eq_true h1
  simp only [aE,ah,bhq,Nat.reduceMod,Nat.reduceDiv,au,aq,ay,aN,ax,aM,aJ,aK,aL,yaq,yar,yao,yap,go_sem,cj,bT,hg,hgc,bW hb,cE,bK,cU,hne,i0,c4,w8,w1,iNq]
  refine ⟨by decide,by decide,⟨by simp [ziq,zgq,zgr,zgs],by decide,by decide,ak (fun h2=>?_) (fun h2=>?_)⟩⟩
  ·have h2':cv b (v+5) 3=1:=by simp [cp] at h2;omega
   simp only [aE,ah,bhq,Nat.reduceMod,Nat.reduceDiv,au,aq,ay,aN,ax,aM,aJ,aK,aL,yaq,yar,yao,yap,go_sem,cj,bT,hg,hgc,bW hb,cE,bK,cU,hne,i0,c4,w8,w1,iNq]
   refine ⟨by decide,?_⟩
   refine i8 2 (.slice .any 5 ((bL b v).1.map aO)) ?_ ?_
   ·exact Z3
   ·have e:(bL b v).2=cp v 7:=by unfold bL;simp only [h1',h2',if_true,if_false];rfl
    rw [e]
    simp only [go_sem,bhq,Nat.reduceMod,Nat.reduceDiv,au,aq,ay,aN,ax,aM,aJ,aK,aL,yaq,yar,yao,yap]
    simp (disch:=first|exact Zd|omega) [↓zmo,beq,ybc,ybd,ybe,aa,wk,wk2,wk1,wkM,wkL,ae,ybf,hcl2]
    first|exact aZ gf|exact ⟨by repeat first|exact .refl _|refine .push ?_ _,aZ gf⟩
  ·have h2':¬ cv b (v+5) 3=1:=by simp [cp] at h2;omega
   simp only [aE,ah,bhq,Nat.reduceMod,Nat.reduceDiv,au,aq,ay,aN,ax,aM,aJ,aK,aL,yaq,yar,yao,yap,go_sem,cj,bT,hg,hgc,bW hb,cE,bK,cU,hne,i0,c4,w8,w1,iNq]
   refine i8 2 (.slice .any 5 ((bL b v).1.map aO)) ?_ ?_
   ·exact Z3
   ·have e:(bL b v).2=cp v 6:=by unfold bL;simp only [h1',h2',if_true,if_false];rfl
    rw [e]
    simp only [go_sem,bhq,Nat.reduceMod,Nat.reduceDiv,au,aq,ay,aN,ax,aM,aJ,aK,aL,yaq,yar,yao,yap]
    simp (disch:=first|exact Zd|omega) [↓zmo,beq,ybc,ybd,ybe,aa,wk,wk2,wk1,wkM,wkL,ae,ybf,hcl2]
    first|exact aZ gf|exact ⟨by repeat first|exact .refl _|refine .push ?_ _,aZ gf⟩
 ·have h1':¬ cv b (v+1) 2=1:=of_decide_eq_false h1
  simp only [aE,ah,bhq,Nat.reduceMod,Nat.reduceDiv,au,aq,ay,aN,ax,aM,aJ,aK,aL,yaq,yar,yao,yap,go_sem,cj,bT,hg,hgc,bW hb,cE,bK,cU,hne,i0,c4,w8,w1,iNq]
  refine ⟨by decide,by decide,ak (fun h2=>?_) (fun h2=>?_)⟩
  ·have h2':cv b (v+3) 3=1:=by simp [cp] at h2;omega
   simp only [aE,ah,bhq,Nat.reduceMod,Nat.reduceDiv,au,aq,ay,aN,ax,aM,aJ,aK,aL,yaq,yar,yao,yap,go_sem,cj,bT,hg,hgc,bW hb,cE,bK,cU,hne,i0,c4,w8,w1,iNq]
   refine ⟨by decide,?_⟩
   refine i8 2 (.slice .any 5 ((bL b v).1.map aO)) ?_ ?_
   ·exact Z3
   ·have e:(bL b v).2=cp v 5:=by unfold bL;simp only [h1',h2',if_true,if_false];rfl
    rw [e]
    simp only [go_sem,bhq,Nat.reduceMod,Nat.reduceDiv,au,aq,ay,aN,ax,aM,aJ,aK,aL,yaq,yar,yao,yap]
    simp (disch:=first|exact Zd|omega) [↓zmo,beq,ybc,ybd,ybe,aa,wk,wk2,wk1,wkM,wkL,ae,ybf,hcl2]
    first|exact aZ gf|exact ⟨by repeat first|exact .refl _|refine .push ?_ _,aZ gf⟩
  ·have h2':¬ cv b (v+3) 3=1:=by simp [cp] at h2;omega
   simp only [aE,ah,bhq,Nat.reduceMod,Nat.reduceDiv,au,aq,ay,aN,ax,aM,aJ,aK,aL,yaq,yar,yao,yap,go_sem,cj,bT,hg,hgc,bW hb,cE,bK,cU,hne,i0,c4,w8,w1,iNq]
   refine i8 2 (.slice .any 5 ((bL b v).1.map aO)) ?_ ?_
   ·exact Z3
   ·have e:(bL b v).2=cp v 4:=by unfold bL;simp only [h1',h2',if_true,if_false];rfl
    rw [e]
    simp only [go_sem,bhq,Nat.reduceMod,Nat.reduceDiv,au,aq,ay,aN,ax,aM,aJ,aK,aL,yaq,yar,yao,yap]
    simp (disch:=first|exact Zd|omega) [↓zmo,beq,ybc,ybd,ybe,aa,wk,wk2,wk1,wkM,wkL,ae,ybf,hcl2]
    first|exact aZ gf|exact ⟨by repeat first|exact .refl _|refine .push ?_ _,aZ gf⟩
theorem xE:ti Tryz.prog 115=some ⟨.slice 9,1,24,.slice .nil 1 []⟩:=by kernel_rfl
theorem wa:ti Tryz.prog 116=some ⟨.slice 115,1,24,.slice .nil 1 []⟩:=by kernel_rfl
attribute [go_sem] xE wa
def JnT {α:Type} (F:α→Fr) (G:α→AHeap) (I:α→Prop) (K:Fr→AHeap→Prop):Prop:=∀ x,I x→K (F x) (G x)
theorem HA {α:Type} (F:α→Fr) (G:α→AHeap) (I:α→Prop) {K:Fr→AHeap→Prop} {C:Prop} (h:JnT F G I K→C) (hJ:JnT F G I K):C:=h hJ
theorem yk {F:Nat × AHeap→Fr} {I:Nat × AHeap→Prop} {n0 s id off sz len:Nat} {K:Fr→AHeap→Prop} {fr:Fr} {H:AHeap} (J:JnT F (fun x=>x.2) (fun x=>x.2.Closed∧I x) K) (hs:Fr.get fr s=.ms id off sz len) (hc:H.Closed) (hx:I (id,H)) (hn:n0≤H.nx) (hl:ltF H.nx (F (id,H))) (hw:bk H H (F (id,H)) fr):jx n0 K fr H:=tA _ _ ⟨hn,lRq _,hc,hl,hw⟩ (J _ ⟨hc,hx⟩)
theorem ub {n0 s id off sz len:Nat} {K:Fr→AHeap→Prop} {fr:Fr} {H:AHeap} {cs:List AV} (cs':List AV) (hs:Fr.get fr s=.ms id off sz len) (hc:aI H id=some cs) (h:ke cs cs') (hk:K fr (H.set id (.cells cs'))):jx n0 K fr H:=gM id cs' hc h hk
structure But (id:Nat) (H Hc:AHeap):Prop where
 nx:H.nx≤Hc.nx
 get:∀ j x,j≠id→H.get j=some x→Hc.get j=some x
theorem But.push {id:Nat} {H Hc:AHeap} (h:But id H Hc) (o:AObj):But id H (Hc.push o):=⟨by rw [zle];exact Nat.le_succ_of_le h.nx,fun j x hj hx=>by
 have:=h.get j x hj hx
 rw [gPq _ _ (glq this)];exact this⟩
theorem But.set {id i:Nat} {H Hc:AHeap} (h:But id H Hc) (o:AObj) (hi:i=id∨H.nx≤i):But id H (Hc.set i o):=⟨by rw [zlf];exact h.nx,fun j x hj hx=>by
 have hlt:=glq hx
 rw [AHeap.get_set_ne _ _ (by rcases hi with rfl|hi<;>omega)]
 exact h.get j x hj hx⟩
theorem But.del {id i:Nat} {H Hc:AHeap} (h:But id H Hc) (hi:H.nx≤i):But id H (Hc.del i):=⟨by rw [ij];exact h.nx,fun j x hj hx=>by
 have hlt:=glq hx
 rw [jD,if_neg (by omega)]
 exact h.get j x hj hx⟩
theorem But.self {id:Nat} {H:AHeap}:But id H H:=⟨nrq _,fun _ _ _ h=>h⟩
theorem But.le {id:Nat} {H Hc:AHeap} {o:AObj} (h:But id H Hc) (hg:Hc.get id=some o):(H.set id o).Le Hc:=Is h.get hg h.nx
theorem tH {H:AHeap} {i j:Nat} {o o':AObj} (h:i≠j):(H.set i o).set j o'=(H.set j o').set i o:=by
 simp only [AHeap.set,AHeap.mk.injEq,true_and]
 funext k
 by_cases h1:k=i
 ·subst h1;simp [h]
 ·simp [h1]
theorem Ha {H:AHeap} {i:Nat} {o o':AObj}:(H.set i o).set i o'=H.set i o':=by
 simp only [AHeap.set,AHeap.mk.injEq,true_and]
 funext k
 by_cases h1:k=i<;>simp [h1]
def Co (b:List UInt8) (v k:Nat):List STable:=(cN b v).take k++((cN b v).drop k).map fun t=>{ t with restr:=[] }
def tm (b:List UInt8) (v k:Nat):List AV:=(Co b v k).flatMap fun t=>(aC t).cells
theorem xe {α:Type} {n:Nat} {f:α→AV} {l:List α} (h:∀ x,AV.lt n (f x)):ltL n (l.flatMap fun x=>(f x).cells):=ltL_iff.2 fun j hj=>by
 obtain ⟨x,_,hx⟩:=List.mem_flatMap.1 (gMq hj)
 obtain ⟨k,hk,e⟩:=List.mem_iff_getElem.1 hx
 rw [← e];exact AV.lt_cells (h x) k hk
theorem mf {α:Type} {sz:Nat} (h1:sz≠1) (f:α→List AV) (hf:∀ x,(f x).length=sz):∀ l:List α,bH sz l.length (l.flatMap f)=l.map fun x=>.agg (f x)
 |[]=>rfl
 |x::l=>by
  rw [yaz,List.flatMap_cons,bH,if_neg h1,yae,show (f x++l.flatMap f).drop sz=l.flatMap f by rw [← hf x,List.drop_left],mf h1 f hf l]
  congr 2
  apply List.ext_getElem
  ·simp [hf]
  ·intro j a1 a2
   simp only [List.getElem_map,List.getElem_range]
   rw [gEq,List.getElem?_append_left a2,gQq a2];rfl
def lT:AV:=.slice .any 1 [.slice .any 1 (gText0.map .str),.slice .any 1 (gText1.map .str),.slice .any 1 (gText2.map .str),.slice .any 1 (gText3.map .str)]
def pH:=eG fun b v=>(.slice .any 8 ((cN b v).map aC),v+12)
theorem yO:EntOk Tryz.prog 22 (Ent.effect pH):=by
 unfold pH
 refine EntOk.effect fun args H K h=>?_
 unfold eG at h
 split at h
 rotate_left
 ·exact h.elim
 rename_i id
 obtain ⟨b,v,hg,hb,hv,hK⟩:=lC h
 refine ⟨_,_,hK,?_⟩
 clear hK
 refine ACalls.fW ap (tCq kN (tCq kX tNq)) Tryz.func22 [.tmp 2] (nrq _) (T:=aj [(16,[[],[],[],[],[],[],[],[],[],[7],[],[],[5,7,9]]),(11,[[14]]),(13,[[1,1,1]])]) (h:=fun hcl hlt=>?_)
 clear hlt
 have hid:=glq hg
 have hne:=qv hid
 have hne2:=qv (show id<H.nx+1+1+1+1+1+1+1+1+1+1+1+1+1+1+1+1 by omega)
 have hgc:=mj (b:=b) hid
 have hcl2:∀ w,(H.set id (ex b w)).Closed:=fun w=>ba hcl jG
 have c3:∀ u,(0≤((cv b u 3:Nat):Int)∧((cv b u 3:Nat):Int)<((3:Nat):Int))=True:=fun u=>LU (by decide)
 have w1:∀ (u n:Nat) (k:Int),0<n→n≤100→0≤k→k≤100→IntKind.i64.wrap (k+((cv b u n:Nat):Int))=k+((cv b u n:Nat):Int):=fun u n k h1 h2 h3 h4=>by
  have:=jA (b:=b) (v:=u) (n:=n) h1
  rw [wrap_i64 (by omega) (by omega)]
 have e2:(2:Int).toNat=2:=rfl
 have e5:(5:Int).toNat=5:=rfl
 have e6:(6:Int).toNat=6:=rfl
 have e3:(3:Int).toNat=3:=rfl
 have a12:∀ u,IntKind.i64.wrap (1+((cv b u 2:Nat):Int))=1+((cv b u 2:Nat):Int):=fun u=>w1 u 2 1 (by decide) (by decide) (by decide) (by decide)
 have a25:∀ u,IntKind.i64.wrap (2+((cv b u 5:Nat):Int))=2+((cv b u 5:Nat):Int):=fun u=>w1 u 5 2 (by decide) (by decide) (by decide) (by decide)
 have a36:∀ u,IntKind.i64.wrap (3+((cv b u 6:Nat):Int))=3+((cv b u 6:Nat):Int):=fun u=>w1 u 6 3 (by decide) (by decide) (by decide) (by decide)
 have a46:∀ u,IntKind.i64.wrap (4+((cv b u 6:Nat):Int))=4+((cv b u 6:Nat):Int):=fun u=>w1 u 6 4 (by decide) (by decide) (by decide) (by decide)
 have a35:∀ u,IntKind.i64.wrap (3+((cv b u 5:Nat):Int))=3+((cv b u 5:Nat):Int):=fun u=>w1 u 5 3 (by decide) (by decide) (by decide) (by decide)
 simp only [go_sem,cj,bT,hg,hgc,bW hb,cE,bK,cU,hne,e2,e3,e5,e6,a12,a25,a36,a46,a35]
 apply HA (α:=Nat × AHeap) (fun x=>[(0,.ptr id 0),(7,.ms x.1 0 8 4),(8,lT)]) (fun x=>x.2) (fun x=>x.2.Closed∧H.nx≤x.1∧x.1<x.2.nx∧But id H x.2∧x.2.get id=some (ex b (cp v 8))∧x.2.get x.1=some (.cells (tm b v 0)))
 ·intro J
  (repeat with_reducible refine Yq ?_)
  refine ak (fun h1=>?_) (fun h1=>?_)
  all_goals
   simp only [aE,ah,bhq,Nat.reduceMod,Nat.reduceDiv,au,aq,ay,aN,ax,aM,aJ,aK,aL,yaq,yar,yao,yap,go_sem,cj,bT,hg,hgc,bW hb,cE,bK,cU,hne,e2,e3,e5,e6,a12,a25,a36,a46,a35]
   (repeat with_reducible refine Yq ?_)
   refine ak (fun h2=>?_) (fun h2=>?_)
  all_goals
   simp only [aE,ah,bhq,Nat.reduceMod,Nat.reduceDiv,au,aq,ay,aN,ax,aM,aJ,aK,aL,yaq,yar,yao,yap,go_sem,cj,bT,hg,hgc,bW hb,cE,bK,cU,hne,e2,e3,e5,e6,a12,a25,a36,a46,a35]
   (repeat with_reducible refine Yq ?_)
   refine ak (fun h3=>?_) (fun h3=>?_)
  all_goals
   simp only [aE,ah,bhq,Nat.reduceMod,Nat.reduceDiv,au,aq,ay,aN,ax,aM,aJ,aK,aL,yaq,yar,yao,yap,go_sem,cj,bT,hg,hgc,bW hb,cE,bK,cU,hne,e2,e3,e5,e6,a12,a25,a36,a46,a35]
   (repeat with_reducible refine Yq ?_)
   refine ub (s:=7) (tm b v 0) rfl (by simp only [go_sem];rfl) ?_ ?_
   ·first|replace h1:=of_decide_eq_true h1|replace h1:=of_decide_eq_false h1
    first|replace h2:=of_decide_eq_true h2|replace h2:=of_decide_eq_false h2
    first|replace h3:=of_decide_eq_true h3|replace h3:=of_decide_eq_false h3
    simp only [cp] at h1 h2 h3
    simp [tm,Co,cN,fV,fX,dh,di,aC,bE,inL,vv,h1,h2,h3,cp,AV.cells,kB,dd,dc,dK,gh,gN,kz,jJ,jp,wkM]
   refine i8 8 lT ?_ ?_
   ·simp [Fr.get,lT,gText0,gText1,gText2,gText3,AV.cells,dd,dc,dK,gh,gN,jJ,wkM]
   refine yk (s:=7) J rfl ?_ ?_ (by (try simp only [zkv,zkq,pm,zle,zlf]);omega) ?_ ?_
   ·repeat' (first|exact hcl2 _|refine aY ?_|refine ba ?_ ?_|refine af ?_ ?_)
    all_goals first|exact xe fun _=>eb _|(simp [fD,znu,znv,znf,znh,zng,znr,AV.cells,yal,yak,zle,zlf];try omega)
   ·dsimp only
    refine ⟨by (try simp only [zle,zlf]);omega,by (try simp only [zle,zlf]);omega,?_,?_,?_⟩
    ·repeat (first|exact But.self|refine But.push ?_ _|refine But.set ?_ _ (by first|exact .inl rfl|exact .inr (by (try simp only [zle,zlf]);omega)))
    ·simp only [go_sem,hne,hne2,hgc,cp]
    ·simp only [go_sem]
   ·simp [ltF,znn,znp,lT,gText0,gText1,gText2,gText3,znh,fD,znu,znv,zle,zlf]
    try omega
   ·simp [bk,wk2,wk1,wkM,Fr.get,lT]
 ·rintro ⟨i,Hc⟩ ⟨q3,q1,q2,q4,q5,q6⟩
  dsimp only at q1 q2 q3 q4 q5 q6 ⊢
  have hii:i≠id:=by omega
  have gtx:∀ u x y z,([AV.str x,.str y,.str z]:List AV).getD (cv b u 3) .junk=.str ([x,y,z].getD (cv b u 3) []):=fun u x y z=>by
   have:=jA (b:=b) (v:=u) (n:=3) (by decide)
   rcases (by omega:cv b u 3=0∨cv b u 3=1∨cv b u 3=2) with e|e|e<;>rw [e]<;>rfl
  have hic:id<Hc.nx:=glq q5
  have hci:∀ C w,aI ((Hc.set i (.cells C)).set id (ex b w)) i=some C:=fun C w=>ag (by
   rw [AHeap.get_set_ne _ _ hii,AHeap.get_set_same _ _ q2])
  have hgd:∀ C w,((Hc.set i (.cells C)).set id (ex b w)).get id=some (ex b w):=fun C w=>AHeap.get_set_same _ _ (by rw [zlf];exact hic)
  have hsi:∀ C C' w,((Hc.set i (.cells C)).set id (ex b w)).set i (.cells C')=(Hc.set i (.cells C')).set id (ex b w):=fun C C' w=>by
   rw [← tH hii,Ha,tH hii]
  have hsd:∀ C w w',((Hc.set i (.cells C)).set id (ex b w)).set id (ex b w')=(Hc.set i (.cells C)).set id (ex b w'):=fun C w w'=>Cf
  have hclo:∀ k w,((Hc.set i (.cells (tm b v k))).set id (ex b w)).Closed:=fun k w=>ba (ba q3 (xe fun _=>eb _)) jG
  simp only [bhq,Nat.reduceMod,Nat.reduceDiv,au,aq,ay,aN,ax,aM,aJ,aK,aL,yaq,yar,yao,yap,go_sem]
  refine aD (A:=Nat) (fun k=>[(0,.ptr id 0),(7,.ms i 0 8 4),(8,lT),(80,.int .i64 4),(81,.int .i64 (k:Int))]) (fun k=>(Hc.set i (.cells (tm b v k))).set id (ex b (cp v (8+k)))) (fun k=>k≤4) (fun k=>4 - k) 0 (by omega) ?_ fun k hk=>?_
  ·refine ⟨by simp only [zlf,zkq,zkv];have:=q4.nx;omega,?_,hclo _ _,?_,?_⟩
   ·exact ((ly (by rw [AHeap.get_set_ne _ _ (fun e=>hii e.symm)];exact q5)).trans (ly q6))
   ·simp [ltF,znn,znp,znf,lT,gText0,gText1,gText2,gText3,znh,fD,znu,znv,zlf]
    omega
   ·simp [bk,wk2,wk1,wkM,Fr.get,lT]
  simp only [go_sem]
  refine ak (fun hc=>?_) (fun hc=>?_)
  ·have hk4:k<4:=by simp at hc;omega
   have c3':∀ u,(0≤((cv b u 3:Nat):Int)∧((cv b u 3:Nat):Int)<((3:Nat):Int)):=fun u=>of_eq_true (c3 u)
   have e4:IntKind.i64.wrap ((k:Int)+1)=((k+1:Nat):Int):=by rw [wrap_i64]<;>omega
   rcases (by omega:k=0∨k=1∨k=2∨k=3) with rfl|rfl|rfl|rfl
   ·simp only [go_sem,lT,gText0,gText1,gText2,gText3,cj,hgd,hci,hsi,hsd,bW hb,cE,bK,cU,e3,gtx,c3',e4,show IntKind.i64.wrap 1=1 from by decide,iNq,zok,tm,Co,cN,List.flatMap_cons,List.flatMap_nil,aC,AV.cells,yal,yak]
    refine ⟨by decide,by decide,by decide,1,by decide,by decide,by simp only [zlf,zkq,zkv];have:=q4.nx;omega,lRq _,hclo 1 _,?_,?_⟩
    ·simp [ltF,znn,znp,znf,znh,fD,znu,znv,zlf]
     omega
    ·simp [bk,wk2,wk1,wkM,Fr.get]
   ·simp only [go_sem,lT,gText0,gText1,gText2,gText3,cj,hgd,hci,hsi,hsd,bW hb,cE,bK,cU,e3,gtx,c3',e4,show IntKind.i64.wrap 1=1 from by decide,iNq,zok,tm,Co,cN,List.flatMap_cons,List.flatMap_nil,aC,AV.cells,yal,yak]
    refine ⟨by decide,by decide,by decide,2,by decide,by decide,by simp only [zlf,zkq,zkv];have:=q4.nx;omega,lRq _,hclo 2 _,?_,?_⟩
    ·simp [ltF,znn,znp,znf,znh,fD,znu,znv,zlf]
     omega
    ·simp [bk,wk2,wk1,wkM,Fr.get]
   ·simp only [go_sem,lT,gText0,gText1,gText2,gText3,cj,hgd,hci,hsi,hsd,bW hb,cE,bK,cU,e3,gtx,c3',e4,show IntKind.i64.wrap 1=1 from by decide,iNq,zok,tm,Co,cN,List.flatMap_cons,List.flatMap_nil,aC,AV.cells,yal,yak]
    refine ⟨by decide,by decide,by decide,3,by decide,by decide,by simp only [zlf,zkq,zkv];have:=q4.nx;omega,lRq _,hclo 3 _,?_,?_⟩
    ·simp [ltF,znn,znp,znf,znh,fD,znu,znv,zlf]
     omega
    ·simp [bk,wk2,wk1,wkM,Fr.get]
   ·simp only [go_sem,lT,gText0,gText1,gText2,gText3,cj,hgd,hci,hsi,hsd,bW hb,cE,bK,cU,e3,gtx,c3',e4,show IntKind.i64.wrap 1=1 from by decide,iNq,zok,tm,Co,cN,List.flatMap_cons,List.flatMap_nil,aC,AV.cells,yal,yak]
    refine ⟨by decide,by decide,by decide,4,by decide,by decide,by simp only [zlf,zkq,zkv];have:=q4.nx;omega,lRq _,hclo 4 _,?_,?_⟩
    ·simp [ltF,znn,znp,znf,znh,fD,znu,znv,zlf]
     omega
    ·simp [bk,wk2,wk1,wkM,Fr.get]
  ·have hk4:k=4:=by simp at hc;omega
   subst hk4
   simp only [go_sem]
   have hr:bH 8 4 (tm b v 4)=(cN b v).map aC:=mf (by decide) (fun t=>(aC t).cells) (fun _=>rfl) (cN b v)
   refine ⟨?_,?_,hcl2 _,aZ eb⟩
   ·simp only [wk,wk2,wk1,hci,yap,hr,true_or,true_and]
    rw [zmv (by rw [zlf];exact q1)]
   ·exact ((q4.set _ (.inr q1)).set _ (.inl rfl)).le (hgd _ _)
def n7:=eG fun b v=>(.slice .any 5 ((dn b v).map aA),v+4)
def Bv (b:List UInt8) (v:Nat) (r1 r2:Bool):List AV:=((dn b v).map fun a=>(⟨a.id,a.name,a.params,a.body,if a.id=3∧r1=true then [112,111,114,116,32,33,61,32,48] else if a.id=5∧r2=true then [120,32,60,32,121,32,124,124,32,120,32,61,61,32,49,53] else []⟩:SAction)).flatMap fun a=>(aA a).cells
theorem Fl {b:List UInt8} {v:Nat}:Bv b v (decide (cv b (v+2) 2=1)) (decide (cv b (v+3) 2=1))=(dn b v).flatMap fun a=>(aA a).cells:=by
 by_cases h1:cv b (v+2) 2=1<;>by_cases h2:cv b (v+3) 2=1<;>simp [Bv,dn,aA,AV.cells,h1,h2]
theorem w7:EntOk Tryz.prog 21 (Ent.effect n7):=by
 unfold n7
 refine EntOk.effect fun args H K h=>?_
 unfold eG at h
 split at h
 rotate_left
 ·exact h.elim
 rename_i id
 obtain ⟨b,v,hg,hb,hv,hK⟩:=lC h
 refine ⟨_,_,hK,?_⟩
 clear hK
 dsimp only
 generalize hres:AV.slice .any 5 ((dn b v).map aA)=res
 refine ACalls.fW ap (tCq kN (tCq kX tNq)) Tryz.func21 [.tmp 2] (nrq _) (T:=aj [(2,[[],[],[],[],[],[],[],[],[],[],[],[],[],[],[],[],[],[],[],[],[],[],[],[],[],[],[],[],[],[],[],[],[],[29],[29,33],[],[],[],[29,33],[],[6,12,22,29,33]]),(802,[[100002],[100005],[100008],[100011],[100016],[100020],[100026],[100044]]),(1202,[[40]]),(3,[[1]])]) (h:=fun hcl hlt=>?_)
 clear hlt
 have hid:=glq hg
 have hne:=qv hid
 have hne2:=qv (show id<H.nx+1+1+1+1+1+1+1+1+1+1+1+1+1+1+1+1 by omega)
 have hgc:=mj (b:=b) hid
 have hcl2:∀ w,(H.set id (ex b w)).Closed:=fun w=>ba hcl jG
 have e2:(2:Int).toNat=2:=rfl
 have e256:(256:Int).toNat=256:=rfl
 have a22:∀ u,IntKind.i64.wrap (2+((cv b u 2:Nat):Int))=2+((cv b u 2:Nat):Int):=fun u=>by
  have:=jA (b:=b) (v:=u) (n:=2) (by decide)
  rw [wrap_i64 (by omega) (by omega)]
 have u256:∀ u,IntKind.u64.wrap ((cv b u 256:Nat):Int)=((cv b u 256:Nat):Int):=fun u=>by
  have:=jA (b:=b) (v:=u) (n:=256) (by decide)
  rw [lk (by omega) (by omega)]
 simp only [go_sem,cj,bT,hg,hgc,bW hb,cE,bK,cU,hne,hne2,e2,e256,a22,u256]
 (repeat with_reducible refine Yq ?_)
 simp only [aE,ah,bhq,Nat.reduceMod,Nat.reduceDiv,au,aq,ay,aN,ax,aM,aJ,aK,aL,yaq,yar,yao,yap,go_sem,cj,bT,hg,hgc,bW hb,cE,bK,cU,hne,hne2,e2,e256,a22,u256]
 refine ub (s:=4) (Bv b v false false) rfl (by simp only [go_sem];rfl) ?_ ?_
 ·simp [Bv,dn,aA,bv,bV,vc,cp,AV.cells,kB,dd,dc,dK,gh,gN,kz,jJ,jp,wkM]
  have:=jA (b:=b) (v:=v+1) (n:=256) (by decide)
  omega
 simp only [aE,ah,bhq,Nat.reduceMod,Nat.reduceDiv,au,aq,ay,aN,ax,aM,aJ,aK,aL,yaq,yar,yao,yap,go_sem,cj,bT,hg,hgc,bW hb,cE,bK,cU,hne,hne2,e2,e256,a22,u256]
 refine ak (fun h1=>?_) (fun h1=>?_)
 all_goals
  simp only [aE,ah,bhq,Nat.reduceMod,Nat.reduceDiv,au,aq,ay,aN,ax,aM,aJ,aK,aL,yaq,yar,yao,yap,go_sem,cj,bT,hg,hgc,bW hb,cE,bK,cU,hne,hne2,e2,e256,a22,u256,Bv,dn,List.flatMap_cons,List.flatMap_nil,aA,AV.cells,yal,yak]
  (repeat with_reducible refine Yq ?_)
  refine ak (fun h2=>?_) (fun h2=>?_)
 all_goals
  try simp only [aE,ah,bhq,Nat.reduceMod,Nat.reduceDiv,au,aq,ay,aN,ax,aM,aJ,aK,aL,yaq,yar,yao,yap,go_sem,cj,bT,hg,hgc,bW hb,cE,bK,cU,hne,hne2,e2,e256,a22,u256,Bv,dn,List.flatMap_cons,List.flatMap_nil,aA,AV.cells,yal,yak]
  (repeat with_reducible refine Yq ?_)
  have hA:=Fl (b:=b) (v:=v)
  rw [show decide (cv b (v+2) 2=1)=_ from h1,show decide (cv b (v+3) 2=1)=_ from h2] at hA
  have hr:=mf (sz:=5) (by decide) (fun t=>(aA t).cells) (fun _=>rfl) (dn b v)
  rw [← hA] at hr
  subst hres
  refine ⟨?_,?_,hcl2 _,aZ lg⟩
  ·simp only [wk,wk2,wk1,go_sem,yap,true_or,true_and]
   refine ⟨?_,?_⟩
   ·exact hr.symm
   ·rw [zmv (by (try simp only [zlf]);omega)]
  ·refine But.le (id:=id) ?_ ?_
   ·repeat (first|exact But.self|refine But.push ?_ _|refine But.set ?_ _ (by first|exact .inl rfl|exact .inr (by (try simp only [zle,zlf]);omega)))
   ·simp only [go_sem,hne,hne2,hgc,cp]
end Go.AL
