/- Lemmas of the proof; no condition. -/
import Derived.Test.YtpbnggedofiinaaGreatS10z
import Derived.Test.YtpbnggedofiinaaGreatLGen
import Derived.Test.YtpbnggedofiinaaGreatLEntB
set_option linter.all false
set_option maxRecDepth 10000
set_option maxHeartbeats 32000000
open List renaming length_cons → yaz, length_nil → yba, take_of_length_le → ybc, drop_append → ybd, take_append → ybe, drop_eq_nil_of_le → ybf, cons_append → yal, nil_append → yak, take_succ_cons → yaq, take_zero → yar, drop_succ_cons → yao, drop_zero → yap, map_cons → yae
open Go Go.AL Go.Proofs
namespace Go.AL
theorem FZ:ti Tryz.prog 3=some ⟨.int .i64,1,8,.int .i64 0⟩:=by kernel_rfl
theorem BW:ti Tryz.prog 72=some ⟨.struct [(0,3,false),(1,9,false),(2,3,false)],3,32,.agg [.int .i64 0,.str [],.int .i64 0]⟩:=by kernel_rfl
theorem Ax:ti Tryz.prog 75=some ⟨.struct [(0,3,false),(1,9,false),(2,73,false)],3,48,.agg [.int .i64 0,.str [],.slice .nil 1 []]⟩:=by kernel_rfl
theorem EW:ti Tryz.prog 217=some ⟨.struct [(0,38,false),(2,38,false),(4,3,false)],5,40,.agg [.int .u64 0,.int .u64 0,.int .u64 0,.int .u64 0,.int .i64 0]⟩:=by kernel_rfl
theorem CZ:ti Tryz.prog 147=some ⟨.struct [(0,3,false),(1,3,false),(2,3,false),(3,145,false),(4,3,false)],5,56,.agg [.int .i64 0,.int .i64 0,.int .i64 0,.slice .nil 1 [],.int .i64 0]⟩:=by kernel_rfl
theorem DZ:ti Tryz.prog 221=some ⟨.struct [(0,3,false),(1,3,false),(2,219,false)],6,48,.agg [.int .i64 0,.int .i64 0,.int .i64 0,.int .i64 0,.int .u64 0,.int .u64 0]⟩:=by kernel_rfl
theorem yV:ti Tryz.prog 219=some ⟨.struct [(0,3,false),(1,3,false),(2,38,false)],4,32,.agg [.int .i64 0,.int .i64 0,.int .u64 0,.int .u64 0]⟩:=by kernel_rfl
theorem Di:ti Tryz.prog 223=some ⟨.struct [(0,9,false),(1,3,false)],2,24,.agg [.str [],.int .i64 0]⟩:=by kernel_rfl
theorem AP:ti Tryz.prog 157=some ⟨.struct [(0,3,false),(1,9,false),(2,154,false),(3,155,false),(4,9,false)],5,88,.agg [.int .i64 0,.str [],.slice .nil 1 [],.slice .nil 1 [],.str []]⟩:=by kernel_rfl
theorem Fx:ti Tryz.prog 225=some ⟨.struct [(0,9,false),(1,3,false),(2,3,false)],3,32,.agg [.str [],.int .i64 0,.int .i64 0]⟩:=by kernel_rfl
theorem BZ:ti Tryz.prog 87=some ⟨.struct [(0,3,false),(1,9,false),(2,84,false),(3,73,false),(4,3,false),(5,85,false),(6,3,false),(7,9,false)],8,128,.agg [.int .i64 0,.str [],.slice .nil 1 [],.slice .nil 1 [],.int .i64 0,.slice .nil 1 [],.int .i64 0,.str []]⟩:=by kernel_rfl
theorem CY:ti Tryz.prog 81=some ⟨.struct [(0,3,false),(1,3,false)],2,16,.agg [.int .i64 0,.int .i64 0]⟩:=by kernel_rfl
theorem Dc:ti Tryz.prog 203=some ⟨.struct [(0,3,false),(1,4,false),(2,4,false),(3,201,false)],4,40,.agg [.int .i64 0,.bool false,.bool false,.slice .nil 1 []]⟩:=by kernel_rfl
theorem El:ti Tryz.prog 178=some ⟨.struct [(0,3,false),(1,9,false),(2,176,false),(3,73,false),(4,3,false),(5,4,false)],6,88,.agg [.int .i64 0,.str [],.slice .nil 1 [],.slice .nil 1 [],.int .i64 0,.bool false]⟩:=by kernel_rfl
theorem Gc:ti Tryz.prog 83=some ⟨.struct [(0,3,false),(1,3,false),(2,3,false),(3,3,false),(4,3,false),(5,3,false)],6,48,.agg [.int .i64 0,.int .i64 0,.int .i64 0,.int .i64 0,.int .i64 0,.int .i64 0]⟩:=by kernel_rfl
theorem zP:ti Tryz.prog 32=some ⟨.struct [(0,23,false),(1,24,false),(2,25,false),(3,26,false),(4,27,false),(5,28,false),(6,29,false),(7,30,false),(8,3,false),(9,3,false)],10,208,.agg [.slice .nil 1 [],.slice .nil 1 [],.slice .nil 1 [],.slice .nil 1 [],.slice .nil 1 [],.slice .nil 1 [],.slice .nil 1 [],.slice .nil 1 [],.int .i64 0,.int .i64 0]⟩:=by kernel_rfl
theorem rK:ti Tryz.prog 254=some ⟨.struct [(0,4,false),(1,38,false),(3,38,false),(5,3,false),(6,38,false)],8,64,.agg [.bool false,.int .u64 0,.int .u64 0,.int .u64 0,.int .u64 0,.int .i64 0,.int .u64 0,.int .u64 0]⟩:=by kernel_rfl
theorem Dm:ti Tryz.prog 90=some ⟨.struct [(0,3,false),(1,88,false),(2,3,false),(3,3,false),(4,85,false)],5,72,.agg [.int .i64 0,.slice .nil 1 [],.int .i64 0,.int .i64 0,.slice .nil 1 []]⟩:=by kernel_rfl
theorem C4:ti Tryz.prog 23=some ⟨.slice 72,1,24,.slice .nil 1 []⟩:=by kernel_rfl
theorem zQ:ti Tryz.prog 24=some ⟨.slice 75,1,24,.slice .nil 1 []⟩:=by kernel_rfl
theorem DX:ti Tryz.prog 145=some ⟨.slice 217,1,24,.slice .nil 1 []⟩:=by kernel_rfl
theorem Cq:ti Tryz.prog 25=some ⟨.slice 147,1,24,.slice .nil 1 []⟩:=by kernel_rfl
theorem Et:ti Tryz.prog 155=some ⟨.slice 221,1,24,.slice .nil 1 []⟩:=by kernel_rfl
theorem CX:ti Tryz.prog 154=some ⟨.slice 223,1,24,.slice .nil 1 []⟩:=by kernel_rfl
theorem AJ:ti Tryz.prog 26=some ⟨.slice 157,1,24,.slice .nil 1 []⟩:=by kernel_rfl
theorem F3:ti Tryz.prog 84=some ⟨.slice 225,1,24,.slice .nil 1 []⟩:=by kernel_rfl
theorem C9:ti Tryz.prog 27=some ⟨.slice 87,1,24,.slice .nil 1 []⟩:=by kernel_rfl
theorem CD:ti Tryz.prog 28=some ⟨.slice 81,1,24,.slice .nil 1 []⟩:=by kernel_rfl
theorem Cr:ti Tryz.prog 176=some ⟨.slice 203,1,24,.slice .nil 1 []⟩:=by kernel_rfl
theorem DI:ti Tryz.prog 29=some ⟨.slice 178,1,24,.slice .nil 1 []⟩:=by kernel_rfl
theorem E7:ti Tryz.prog 30=some ⟨.slice 83,1,24,.slice .nil 1 []⟩:=by kernel_rfl
theorem C6:ti Tryz.prog 88=some ⟨.slice 254,1,24,.slice .nil 1 []⟩:=by kernel_rfl
theorem CG:ti Tryz.prog 44=some ⟨.slice 90,1,24,.slice .nil 1 []⟩:=by kernel_rfl
theorem Fo:ti Tryz.prog 85=some ⟨.slice 38,1,24,.slice .nil 1 []⟩:=by kernel_rfl
theorem FM:ti Tryz.prog 73=some ⟨.slice 3,1,24,.slice .nil 1 []⟩:=by kernel_rfl
theorem E5:ti Tryz.prog 201=some ⟨.slice 4,1,24,.slice .nil 1 []⟩:=by kernel_rfl
attribute [go_sem] FZ BW Ax EW CZ DZ yV Di AP Fx BZ CY Dc El Gc zP rK Dm C4 zQ DX Cq Et CX AJ F3 C9 CD Cr DI E7 C6 CG Fo FM E5
def bm:List AV→AHeap→(AEnd→AHeap→Prop)→Prop
 |[.ptr id 0],H,K=>onC (H.get id) fun b v=>K (.ret (.bool (decide (cv b v 2=1)))) (H.set id (cr b (v+1)))
 |_,_,_=>False
theorem jf:EntOk Tryz.prog 29 (Ent.effect bm):=by
 refine EntOk.effect fun args H K h=>?_
 unfold bm at h
 split at h
 rotate_left
 ·exact h.elim
 rename_i id
 obtain ⟨b,v,hg,hb,hv,hK⟩:=fp h
 refine ⟨_,_,hK,?_⟩
 clear hK
 refine ACalls.fW ah (tCq ff tNq) Tryz.func29 [.tmp 2] (nrq _) (T:=ae []) (h:=fun hcl hlt=>?_)
 clear hlt
 have hid:=glq hg
 have hcl2:(H.set id (cr b (v+1))).Closed:=aP hcl fk
 have e2:(2:Int).toNat=2:=rfl
 simp only [go_sem,ay,hg,av hb,cp,e2,Nat.add_zero,Nat.min_eq_left hv]
 have e:((((cv b v 2:Nat):Int))==1)=decide (cv b v 2=1):=by rw [Bool.eq_iff_iff];simp;omega
 refine ⟨⟨by decide,by decide⟩,?_⟩
 rw [e]
 simp (disch:=first|exact Zd|omega) [↓zmo,beq,ybc,ybd,ybe,ag,wk,wk2,wk1,wkM,wkL,ak,ybf,hcl2]
theorem iJ {id n:Nat} (h:id<n):((id=n)=False)∧((id=n+1)=False)∧((id=n+1+1)=False)∧((id=n+1+1+1)=False)∧((id=n+1+1+1+1)=False)∧((id=n+1+1+1+1+1)=False)∧((id=n+1+1+1+1+1+1)=False)∧((id=n+1+1+1+1+1+1+1)=False)∧((id=n+1+1+1+1+1+1+1+1)=False)∧((id=n+1+1+1+1+1+1+1+1+1)=False)∧((id=n+1+1+1+1+1+1+1+1+1+1)=False)∧((id=n+1+1+1+1+1+1+1+1+1+1+1)=False)∧((id=n+1+1+1+1+1+1+1+1+1+1+1+1)=False)∧((id=n+1+1+1+1+1+1+1+1+1+1+1+1+1)=False)∧((id=n+1+1+1+1+1+1+1+1+1+1+1+1+1+1)=False)∧((id=n+1+1+1+1+1+1+1+1+1+1+1+1+1+1+1)=False) :=
 ⟨eq_false (by omega),eq_false (by omega),eq_false (by omega),eq_false (by omega),eq_false (by omega),eq_false (by omega),eq_false (by omega),eq_false (by omega),eq_false (by omega),eq_false (by omega),eq_false (by omega),eq_false (by omega),eq_false (by omega),eq_false (by omega),eq_false (by omega),eq_false (by omega)⟩
theorem fo {H:AHeap} {id:Nat} (h:id<H.nx) (b:List UInt8) (v:Nat):(H.set id (cr b v)).get id=some (cr b v):=AHeap.get_set_same _ _ h
theorem jp {b:List UInt8} {v:Nat}:([AV.int .i64 0,.int .i64 0,.int .i64 65535,.int .i64 3].getD (cv b v 4) .junk)=.int .i64 (mK (cv b v 4)):=by
 have h:=cn (b:=b) (v:=v) (n:=4) (by decide)
 unfold mK
 generalize cv b v 4=c at *
 match c,h with
 |0,_=>rfl
 |1,_=>rfl
 |2,_=>rfl
 |3,_=>rfl
theorem bg {α:Type} {n sz:Nat} {f:α→AV} {l:List α} (h:∀ x,AV.lt n (f x)):AV.lt n (.slice .any sz (l.map f)):=CP fun x hx=>by
 obtain ⟨y,_,rfl⟩:=List.mem_map.1 hx
 exact h y
theorem jl {n v:Nat} {l:List AV}:ltL n (vc v++l)=ltL n l:=by simp [vc,znu,znf]
theorem gR {n v:Nat}:ltL n (vc v)=True:=by simp [vc,znu,znv,znf]
theorem s9 {n:Nat} {l:List Int}:AV.lt n (.slice .any 1 (inL l)):=bg fun x=>by simp only [znf]
theorem Ey {n:Nat} {l:List Bool}:AV.lt n (.slice .any 1 (boL l)):=bg fun x=>by simp only [zng]
theorem rk {n:Nat} {l:List Nat}:AV.lt n (.slice .any 2 (l.map vv)):=bg fun x=>by simp only [vv,znr,znu,znv,znf,and_true]
theorem tx {n:Nat} (x:SField):AV.lt n (lf x):=by
 simp only [lf,znr,znu,znv,znf,znh,zng,jl,gR,List.append_assoc,yal,yak,true_and,and_true]
theorem Do {n:Nat} (x:SHeader):AV.lt n (p5 x):=by
 simp only [p5,znr,znu,znv,znf,znh,zng,jl,gR,List.append_assoc,yal,yak,true_and,and_true]
 exact s9
theorem Fk {n:Nat} (x:SCase):AV.lt n (pt x):=by
 simp only [pt,znr,znu,znv,znf,znh,zng,jl,gR,List.append_assoc,yal,yak,true_and,and_true]
theorem iR {n:Nat} (x:SState):AV.lt n (gy x):=by
 simp only [gy,znr,znu,znv,znf,znh,zng,jl,gR,List.append_assoc,yal,yak,true_and,and_true]
 exact bg Fk
theorem Ga {n:Nat} (x:SPrim):AV.lt n (wd x):=by
 simp only [wd,znr,znu,znv,znf,znh,zng,jl,gR,List.append_assoc,yal,yak,true_and,and_true]
theorem tE {n:Nat} (x:SParam):AV.lt n (mm x):=by
 simp only [mm,znr,znu,znv,znf,znh,zng,jl,gR,List.append_assoc,yal,yak,true_and,and_true]
theorem lN {n:Nat} (x:SAction):AV.lt n (cy x):=by
 simp only [cy,znr,znu,znv,znf,znh,zng,jl,gR,List.append_assoc,yal,yak,true_and,and_true]
 exact ⟨bg tE,bg Ga⟩
theorem sN {n:Nat} (x:SKey):AV.lt n (gW x):=by
 simp only [gW,znr,znu,znv,znf,znh,zng,jl,gR,List.append_assoc,yal,yak,true_and,and_true]
theorem fy {n:Nat} (x:STable):AV.lt n (c8 x):=by
 simp only [c8,znr,znu,znv,znf,znh,zng,jl,gR,List.append_assoc,yal,yak,true_and,and_true]
 exact ⟨bg sN,s9,rk⟩
theorem DE {n:Nat} (x:SStage):AV.lt n (sl x):=by
 simp only [sl,znr,znu,znv,znf,znh,zng,jl,gR,List.append_assoc,yal,yak,true_and,and_true]
theorem pU {n:Nat} (x:SGrant):AV.lt n (dX x):=by
 simp only [dX,znr,znu,znv,znf,znh,zng,jl,gR,List.append_assoc,yal,yak,true_and,and_true]
 exact Ey
theorem BL {n:Nat} (x:SRole):AV.lt n (nv x):=by
 simp only [nv,znr,znu,znv,znf,znh,zng,jl,gR,List.append_assoc,yal,yak,true_and,and_true]
 exact ⟨bg pU,s9⟩
theorem Gy {n:Nat} (x:SRef):AV.lt n (Bl x):=by
 simp only [Bl,znr,znu,znv,znf,znh,zng,jl,gR,List.append_assoc,yal,yak,true_and,and_true]
theorem rh {n:Nat} (x:Sch):AV.lt n (vj x):=by
 simp only [vj,cQ,znr,znu,znv,znf,true_and,and_true]
 exact ⟨bg tx,bg Do,bg iR,bg lN,bg fy,bg DE,bg BL,bg Gy⟩
theorem ET {b:List UInt8} {u n:Nat} (h:0<n):(0≤((cv b u n:Nat):Int)∧((cv b u n:Nat):Int)<(n:Int))=True:=eq_true ⟨by omega,by have:=cn (b:=b) (v:=u) h;omega⟩
def eG (g:List UInt8→Nat→AV × Nat):List AV→AHeap→(AEnd→AHeap→Prop)→Prop
 |[.ptr id 0],H,K=>onC (H.get id) fun b v=>K (.ret (g b v).1) (H.set id (cr b (g b v).2))
 |_,_,_=>False
def qI:=eG fun b v=>(.slice .any 5 ((cE b v).1.map gy),(cE b v).2)
theorem AA:EntOk Tryz.prog 25 (Ent.effect qI):=by
 unfold qI
 refine EntOk.effect fun args H K h=>?_
 unfold eG at h
 split at h
 rotate_left
 ·exact h.elim
 rename_i id
 obtain ⟨b,v,hg,hb,hv,hK⟩:=fp h
 refine ⟨_,_,hK,?_⟩
 clear hK
 refine ACalls.fW ah (tCq ff (tCq jf tNq)) Tryz.func25 [.tmp 2] (nrq _) (T:=ae [(5,[[],[],[],[],[],[3],[],[],[],[],[3],[],[3,10],[],[3,10,12],[1,3,10,12],[],[1,3,10,12]]),(10,[[16]])]) (h:=fun hcl hlt=>?_)
 clear hlt
 have hid:=glq hg
 have hne:=iJ hid
 have hgc:=fo (b:=b) hid
 have hcl2:∀ w,(H.set id (cr b w)).Closed:=fun w=>aP hcl fk
 have c4:∀ u,(0≤((cv b u 4:Nat):Int)∧((cv b u 4:Nat):Int)<((4:Nat):Int))=True:=fun u=>ET (by decide)
 simp only [go_sem,ay,bm,hg,hgc,av hb,aG,ap,aI,hne,jp,c4,iNq]
 have w8:∀ u,IntKind.u64.wrap (IntKind.i64.wrap (8*((cv b u 2:Nat):Int)))=((8*cv b u 2:Nat):Int):=fun u=>by
  have:=cn (b:=b) (v:=u) (n:=2) (by decide)
  rw [wrap_i64 (by omega) (by omega),cG (by omega) (by omega)];omega
 have w1:∀ u,IntKind.i64.wrap (1+((cv b u 3:Nat):Int))=1+((cv b u 3:Nat):Int):=fun u=>by
  have:=cn (b:=b) (v:=u) (n:=3) (by decide)
  rw [wrap_i64 (by omega) (by omega)]
 have hvs:∀ u,vc (8*cv b u 2)=[.int .u64 0,.int .u64 ((8*cv b u 2:Nat):Int)]:=fun u=>gY (by
  have:=cn (b:=b) (v:=u) (n:=2) (by decide)
  omega)
 refine ⟨by decide,af (fun h1=>?_) (fun h1=>?_)⟩
 ·have h1':cv b (v+1) 2=1:=of_decide_eq_true h1
  simp only [bk,bh,bhq,Nat.reduceMod,Nat.reduceDiv,aA,az,aB,aZ,aC,aY,aS,aU,aV,yaq,yar,yao,yap,go_sem,ay,bm,hg,hgc,av hb,aG,ap,aI,hne,jp,c4,w8,w1,iNq]
  refine ⟨by decide,by decide,⟨by simp [ziq,zgq,zgr,zgs],by decide,by decide,af (fun h2=>?_) (fun h2=>?_)⟩⟩
  ·have h2':cv b (v+5) 3=1:=by simp [cp] at h2;omega
   simp only [bk,bh,bhq,Nat.reduceMod,Nat.reduceDiv,aA,az,aB,aZ,aC,aY,aS,aU,aV,yaq,yar,yao,yap,go_sem,ay,bm,hg,hgc,av hb,aG,ap,aI,hne,jp,c4,w8,w1,iNq]
   refine ⟨by decide,?_⟩
   refine gP 2 (.slice .any 5 ((cE b v).1.map gy)) ?_ ?_
   ·exact Z1
   ·have e:(cE b v).2=cp v 7:=by unfold cE;simp only [h1',h2',if_true,if_false];rfl
    rw [e]
    simp only [go_sem,bhq,Nat.reduceMod,Nat.reduceDiv,aA,az,aB,aZ,aC,aY,aS,aU,aV,yaq,yar,yao,yap]
    simp (disch:=first|exact Zd|omega) [↓zmo,beq,ybc,ybd,ybe,ag,wk,wk2,wk1,wkM,wkL,ak,ybf,hcl2]
    first|exact bg iR|exact ⟨by repeat first|exact .refl _|refine .push ?_ _,bg iR⟩
  ·have h2':¬ cv b (v+5) 3=1:=by simp [cp] at h2;omega
   simp only [bk,bh,bhq,Nat.reduceMod,Nat.reduceDiv,aA,az,aB,aZ,aC,aY,aS,aU,aV,yaq,yar,yao,yap,go_sem,ay,bm,hg,hgc,av hb,aG,ap,aI,hne,jp,c4,w8,w1,iNq]
   refine gP 2 (.slice .any 5 ((cE b v).1.map gy)) ?_ ?_
   ·exact Z1
   ·have e:(cE b v).2=cp v 6:=by unfold cE;simp only [h1',h2',if_true,if_false];rfl
    rw [e]
    simp only [go_sem,bhq,Nat.reduceMod,Nat.reduceDiv,aA,az,aB,aZ,aC,aY,aS,aU,aV,yaq,yar,yao,yap]
    simp (disch:=first|exact Zd|omega) [↓zmo,beq,ybc,ybd,ybe,ag,wk,wk2,wk1,wkM,wkL,ak,ybf,hcl2]
    first|exact bg iR|exact ⟨by repeat first|exact .refl _|refine .push ?_ _,bg iR⟩
 ·have h1':¬ cv b (v+1) 2=1:=of_decide_eq_false h1
  simp only [bk,bh,bhq,Nat.reduceMod,Nat.reduceDiv,aA,az,aB,aZ,aC,aY,aS,aU,aV,yaq,yar,yao,yap,go_sem,ay,bm,hg,hgc,av hb,aG,ap,aI,hne,jp,c4,w8,w1,iNq]
  refine ⟨by decide,by decide,af (fun h2=>?_) (fun h2=>?_)⟩
  ·have h2':cv b (v+3) 3=1:=by simp [cp] at h2;omega
   simp only [bk,bh,bhq,Nat.reduceMod,Nat.reduceDiv,aA,az,aB,aZ,aC,aY,aS,aU,aV,yaq,yar,yao,yap,go_sem,ay,bm,hg,hgc,av hb,aG,ap,aI,hne,jp,c4,w8,w1,iNq]
   refine ⟨by decide,?_⟩
   refine gP 2 (.slice .any 5 ((cE b v).1.map gy)) ?_ ?_
   ·exact Z1
   ·have e:(cE b v).2=cp v 5:=by unfold cE;simp only [h1',h2',if_true,if_false];rfl
    rw [e]
    simp only [go_sem,bhq,Nat.reduceMod,Nat.reduceDiv,aA,az,aB,aZ,aC,aY,aS,aU,aV,yaq,yar,yao,yap]
    simp (disch:=first|exact Zd|omega) [↓zmo,beq,ybc,ybd,ybe,ag,wk,wk2,wk1,wkM,wkL,ak,ybf,hcl2]
    first|exact bg iR|exact ⟨by repeat first|exact .refl _|refine .push ?_ _,bg iR⟩
  ·have h2':¬ cv b (v+3) 3=1:=by simp [cp] at h2;omega
   simp only [bk,bh,bhq,Nat.reduceMod,Nat.reduceDiv,aA,az,aB,aZ,aC,aY,aS,aU,aV,yaq,yar,yao,yap,go_sem,ay,bm,hg,hgc,av hb,aG,ap,aI,hne,jp,c4,w8,w1,iNq]
   refine gP 2 (.slice .any 5 ((cE b v).1.map gy)) ?_ ?_
   ·exact Z1
   ·have e:(cE b v).2=cp v 4:=by unfold cE;simp only [h1',h2',if_true,if_false];rfl
    rw [e]
    simp only [go_sem,bhq,Nat.reduceMod,Nat.reduceDiv,aA,az,aB,aZ,aC,aY,aS,aU,aV,yaq,yar,yao,yap]
    simp (disch:=first|exact Zd|omega) [↓zmo,beq,ybc,ybd,ybe,ag,wk,wk2,wk1,wkM,wkL,ak,ybf,hcl2]
    first|exact bg iR|exact ⟨by repeat first|exact .refl _|refine .push ?_ _,bg iR⟩
theorem zn:ti Tryz.prog 226=some ⟨.slice 9,1,24,.slice .nil 1 []⟩:=by kernel_rfl
theorem xD:ti Tryz.prog 227=some ⟨.slice 226,1,24,.slice .nil 1 []⟩:=by kernel_rfl
attribute [go_sem] zn xD
def JnT {α:Type} (F:α→Fr) (G:α→AHeap) (I:α→Prop) (K:Fr→AHeap→Prop):Prop:=∀ x,I x→K (F x) (G x)
theorem DC {α:Type} (F:α→Fr) (G:α→AHeap) (I:α→Prop) {K:Fr→AHeap→Prop} {C:Prop} (h:JnT F G I K→C) (hJ:JnT F G I K):C:=h hJ
theorem Aa {F:Nat × AHeap→Fr} {I:Nat × AHeap→Prop} {n0 s id off sz len:Nat} {K:Fr→AHeap→Prop} {fr:Fr} {H:AHeap} (J:JnT F (fun x=>x.2) (fun x=>x.2.Closed∧I x) K) (hs:Fr.get fr s=.ms id off sz len) (hc:H.Closed) (hx:I (id,H)) (hn:n0≤H.nx) (hl:ltF H.nx (F (id,H))) (hw:cf H H (F (id,H)) fr):jP n0 K fr H:=vw _ _ ⟨hn,lRq _,hc,hl,hw⟩ (J _ ⟨hc,hx⟩)
theorem vh {n0 s id off sz len:Nat} {K:Fr→AHeap→Prop} {fr:Fr} {H:AHeap} {cs:List AV} (cs':List AV) (hs:Fr.get fr s=.ms id off sz len) (hc:ai H id=some cs) (h:mW cs cs') (hk:K fr (H.set id (.cells cs'))):jP n0 K fr H:=DR id cs' hc h hk
structure But (id:Nat) (H Hc:AHeap):Prop where
 nx:H.nx≤Hc.nx
 get:∀ j x,j≠id→H.get j=some x→Hc.get j=some x
theorem But.push {id:Nat} {H Hc:AHeap} (h:But id H Hc) (o:AObj):But id H (Hc.push o):=⟨by rw [zle];exact Nat.le_succ_of_le h.nx,fun j x hj hx=>by
 have:=h.get j x hj hx
 rw [gPq _ _ (glq this)];exact this⟩
theorem But.set {id i:Nat} {H Hc:AHeap} (h:But id H Hc) (o:AObj) (hi:i=id∨H.nx≤i):But id H (Hc.set i o):=⟨by rw [zlf];exact h.nx,fun j x hj hx=>by
 have hlt:=glq hx
 rw [AHeap.get_set_ne _ _ (by rcases hi with rfl|hi<;>omega)]
 exact h.get j x hj hx⟩
theorem But.del {id i:Nat} {H Hc:AHeap} (h:But id H Hc) (hi:H.nx≤i):But id H (Hc.del i):=⟨by rw [gI];exact h.nx,fun j x hj hx=>by
 have hlt:=glq hx
 rw [md,if_neg (by omega)]
 exact h.get j x hj hx⟩
theorem But.self {id:Nat} {H:AHeap}:But id H H:=⟨nrq _,fun _ _ _ h=>h⟩
theorem But.le {id:Nat} {H Hc:AHeap} {o:AObj} (h:But id H Hc) (hg:Hc.get id=some o):(H.set id o).Le Hc:=F4 h.get hg h.nx
theorem vy {H:AHeap} {i j:Nat} {o o':AObj} (h:i≠j):(H.set i o).set j o'=(H.set j o').set i o:=by
 simp only [AHeap.set,AHeap.mk.injEq,true_and]
 funext k
 by_cases h1:k=i
 ·subst h1;simp [h]
 ·simp [h1]
theorem EZ {H:AHeap} {i:Nat} {o o':AObj}:(H.set i o).set i o'=H.set i o':=by
 simp only [AHeap.set,AHeap.mk.injEq,true_and]
 funext k
 by_cases h1:k=i<;>simp [h1]
def Cs (b:List UInt8) (v k:Nat):List STable:=(cF b v).take k++((cF b v).drop k).map fun t=>{ t with restr:=[] }
def uL (b:List UInt8) (v k:Nat):List AV:=(Cs b v k).flatMap fun t=>(c8 t).cells
theorem yw {α:Type} {n:Nat} {f:α→AV} {l:List α} (h:∀ x,AV.lt n (f x)):ltL n (l.flatMap fun x=>(f x).cells):=ltL_iff.2 fun j hj=>by
 obtain ⟨x,_,hx⟩:=List.mem_flatMap.1 (gMq hj)
 obtain ⟨k,hk,e⟩:=List.mem_iff_getElem.1 hx
 rw [← e];exact AV.lt_cells (h x) k hk
theorem nB {α:Type} {sz:Nat} (h1:sz≠1) (f:α→List AV) (hf:∀ x,(f x).length=sz):∀ l:List α,bK sz l.length (l.flatMap f)=l.map fun x=>.agg (f x)
 |[]=>rfl
 |x::l=>by
  rw [yaz,List.flatMap_cons,bK,if_neg h1,yae,show (f x++l.flatMap f).drop sz=l.flatMap f by rw [← hf x,List.drop_left],nB h1 f hf l]
  congr 2
  apply List.ext_getElem
  ·simp [hf]
  ·intro j a1 a2
   simp only [List.getElem_map,List.getElem_range]
   rw [gEq,List.getElem?_append_left a2,gQq a2];rfl
def mL:AV:=.slice .any 1 [.slice .any 1 (gText0.map .str),.slice .any 1 (gText1.map .str),.slice .any 1 (gText2.map .str),.slice .any 1 (gText3.map .str)]
def rj:=eG fun b v=>(.slice .any 8 ((cF b v).map c8),v+12)
theorem zV:EntOk Tryz.prog 27 (Ent.effect rj):=by
 unfold rj
 refine EntOk.effect fun args H K h=>?_
 unfold eG at h
 split at h
 rotate_left
 ·exact h.elim
 rename_i id
 obtain ⟨b,v,hg,hb,hv,hK⟩:=fp h
 refine ⟨_,_,hK,?_⟩
 clear hK
 refine ACalls.fW ah (tCq ff (tCq jf tNq)) Tryz.func27 [.tmp 2] (nrq _) (T:=ae [(16,[[],[],[],[],[],[],[],[],[],[7],[],[],[5,7,9]]),(11,[[14]]),(13,[[1,1,1]])]) (h:=fun hcl hlt=>?_)
 clear hlt
 have hid:=glq hg
 have hne:=iJ hid
 have hne2:=iJ (show id<H.nx+1+1+1+1+1+1+1+1+1+1+1+1+1+1+1+1 by omega)
 have hgc:=fo (b:=b) hid
 have hcl2:∀ w,(H.set id (cr b w)).Closed:=fun w=>aP hcl fk
 have c3:∀ u,(0≤((cv b u 3:Nat):Int)∧((cv b u 3:Nat):Int)<((3:Nat):Int))=True:=fun u=>ET (by decide)
 have w1:∀ (u n:Nat) (k:Int),0<n→n≤100→0≤k→k≤100→IntKind.i64.wrap (k+((cv b u n:Nat):Int))=k+((cv b u n:Nat):Int):=fun u n k h1 h2 h3 h4=>by
  have:=cn (b:=b) (v:=u) (n:=n) h1
  rw [wrap_i64 (by omega) (by omega)]
 have e2:(2:Int).toNat=2:=rfl
 have e5:(5:Int).toNat=5:=rfl
 have e6:(6:Int).toNat=6:=rfl
 have e3:(3:Int).toNat=3:=rfl
 have a12:∀ u,IntKind.i64.wrap (1+((cv b u 2:Nat):Int))=1+((cv b u 2:Nat):Int):=fun u=>w1 u 2 1 (by decide) (by decide) (by decide) (by decide)
 have a25:∀ u,IntKind.i64.wrap (2+((cv b u 5:Nat):Int))=2+((cv b u 5:Nat):Int):=fun u=>w1 u 5 2 (by decide) (by decide) (by decide) (by decide)
 have a36:∀ u,IntKind.i64.wrap (3+((cv b u 6:Nat):Int))=3+((cv b u 6:Nat):Int):=fun u=>w1 u 6 3 (by decide) (by decide) (by decide) (by decide)
 have a46:∀ u,IntKind.i64.wrap (4+((cv b u 6:Nat):Int))=4+((cv b u 6:Nat):Int):=fun u=>w1 u 6 4 (by decide) (by decide) (by decide) (by decide)
 have a35:∀ u,IntKind.i64.wrap (3+((cv b u 5:Nat):Int))=3+((cv b u 5:Nat):Int):=fun u=>w1 u 5 3 (by decide) (by decide) (by decide) (by decide)
 simp only [go_sem,ay,bm,hg,hgc,av hb,aG,ap,aI,hne,e2,e3,e5,e6,a12,a25,a36,a46,a35]
 apply DC (α:=Nat × AHeap) (fun x=>[(0,.ptr id 0),(7,.ms x.1 0 8 4),(8,mL)]) (fun x=>x.2) (fun x=>x.2.Closed∧H.nx≤x.1∧x.1<x.2.nx∧But id H x.2∧x.2.get id=some (cr b (cp v 8))∧x.2.get x.1=some (.cells (uL b v 0)))
 ·intro J
  (repeat with_reducible refine Yq ?_)
  refine af (fun h1=>?_) (fun h1=>?_)
  all_goals
   simp only [bk,bh,bhq,Nat.reduceMod,Nat.reduceDiv,aA,az,aB,aZ,aC,aY,aS,aU,aV,yaq,yar,yao,yap,go_sem,ay,bm,hg,hgc,av hb,aG,ap,aI,hne,e2,e3,e5,e6,a12,a25,a36,a46,a35]
   (repeat with_reducible refine Yq ?_)
   refine af (fun h2=>?_) (fun h2=>?_)
  all_goals
   simp only [bk,bh,bhq,Nat.reduceMod,Nat.reduceDiv,aA,az,aB,aZ,aC,aY,aS,aU,aV,yaq,yar,yao,yap,go_sem,ay,bm,hg,hgc,av hb,aG,ap,aI,hne,e2,e3,e5,e6,a12,a25,a36,a46,a35]
   (repeat with_reducible refine Yq ?_)
   refine af (fun h3=>?_) (fun h3=>?_)
  all_goals
   simp only [bk,bh,bhq,Nat.reduceMod,Nat.reduceDiv,aA,az,aB,aZ,aC,aY,aS,aU,aV,yaq,yar,yao,yap,go_sem,ay,bm,hg,hgc,av hb,aG,ap,aI,hne,e2,e3,e5,e6,a12,a25,a36,a46,a35]
   (repeat with_reducible refine Yq ?_)
   refine vh (s:=7) (uL b v 0) rfl (by simp only [go_sem];rfl) ?_ ?_
   ·first|replace h1:=of_decide_eq_true h1|replace h1:=of_decide_eq_false h1
    first|replace h2:=of_decide_eq_true h2|replace h2:=of_decide_eq_false h2
    first|replace h3:=of_decide_eq_true h3|replace h3:=of_decide_eq_false h3
    simp only [cp] at h1 h2 h3
    simp [uL,Cs,cF,i9,jd,dW,dU,c8,gW,inL,vv,h1,h2,h3,cp,AV.cells,jv,fP,fK,gH,fM,gC,jw,jR,jB,wkM]
   refine gP 8 mL ?_ ?_
   ·simp [Fr.get,mL,gText0,gText1,gText2,gText3,AV.cells,fP,fK,gH,fM,gC,jR,wkM]
   refine Aa (s:=7) J rfl ?_ ?_ (by (try simp only [zkv,zkq,nK,zle,zlf]);omega) ?_ ?_
   ·repeat' (first|exact hcl2 _|refine bj ?_|refine aP ?_ ?_|refine aD ?_ ?_)
    all_goals first|exact yw fun _=>fy _|(simp [lt_sliceL,znu,znv,znf,znh,zng,znr,AV.cells,yal,yak,zle,zlf];try omega)
   ·dsimp only
    refine ⟨by (try simp only [zle,zlf]);omega,by (try simp only [zle,zlf]);omega,?_,?_,?_⟩
    ·repeat (first|exact But.self|refine But.push ?_ _|refine But.set ?_ _ (by first|exact .inl rfl|exact .inr (by (try simp only [zle,zlf]);omega)))
    ·simp only [go_sem,hne,hne2,hgc,cp]
    ·simp only [go_sem]
   ·simp [ltF,znn,znp,mL,gText0,gText1,gText2,gText3,znh,lt_sliceL,znu,znv,zle,zlf]
    try omega
   ·simp [cf,wk2,wk1,wkM,Fr.get,mL]
 ·rintro ⟨i,Hc⟩ ⟨q3,q1,q2,q4,q5,q6⟩
  dsimp only at q1 q2 q3 q4 q5 q6 ⊢
  have hii:i≠id:=by omega
  have gtx:∀ u x y z,([AV.str x,.str y,.str z]:List AV).getD (cv b u 3) .junk=.str ([x,y,z].getD (cv b u 3) []):=fun u x y z=>by
   have:=cn (b:=b) (v:=u) (n:=3) (by decide)
   rcases (by omega:cv b u 3=0∨cv b u 3=1∨cv b u 3=2) with e|e|e<;>rw [e]<;>rfl
  have hic:id<Hc.nx:=glq q5
  have hci:∀ C w,ai ((Hc.set i (.cells C)).set id (cr b w)) i=some C:=fun C w=>aM (by
   rw [AHeap.get_set_ne _ _ hii,AHeap.get_set_same _ _ q2])
  have hgd:∀ C w,((Hc.set i (.cells C)).set id (cr b w)).get id=some (cr b w):=fun C w=>AHeap.get_set_same _ _ (by rw [zlf];exact hic)
  have hsi:∀ C C' w,((Hc.set i (.cells C)).set id (cr b w)).set i (.cells C')=(Hc.set i (.cells C')).set id (cr b w):=fun C C' w=>by
   rw [← vy hii,EZ,vy hii]
  have hsd:∀ C w w',((Hc.set i (.cells C)).set id (cr b w)).set id (cr b w')=(Hc.set i (.cells C)).set id (cr b w'):=fun C w w'=>CV
  have hclo:∀ k w,((Hc.set i (.cells (uL b v k))).set id (cr b w)).Closed:=fun k w=>aP (aP q3 (yw fun _=>fy _)) fk
  simp only [bhq,Nat.reduceMod,Nat.reduceDiv,aA,az,aB,aZ,aC,aY,aS,aU,aV,yaq,yar,yao,yap,go_sem]
  refine aK (A:=Nat) (fun k=>[(0,.ptr id 0),(7,.ms i 0 8 4),(8,mL),(80,.int .i64 4),(81,.int .i64 (k:Int))]) (fun k=>(Hc.set i (.cells (uL b v k))).set id (cr b (cp v (8+k)))) (fun k=>k≤4) (fun k=>4 - k) 0 (by omega) ?_ fun k hk=>?_
  ·refine ⟨by simp only [zlf,zkq,zkv];have:=q4.nx;omega,?_,hclo _ _,?_,?_⟩
   ·exact ((mi (by rw [AHeap.get_set_ne _ _ (fun e=>hii e.symm)];exact q5)).trans (mi q6))
   ·simp [ltF,znn,znp,znf,mL,gText0,gText1,gText2,gText3,znh,lt_sliceL,znu,znv,zlf]
    omega
   ·simp [cf,wk2,wk1,wkM,Fr.get,mL]
  simp only [go_sem]
  refine af (fun hc=>?_) (fun hc=>?_)
  ·have hk4:k<4:=by simp at hc;omega
   have c3':∀ u,(0≤((cv b u 3:Nat):Int)∧((cv b u 3:Nat):Int)<((3:Nat):Int)):=fun u=>of_eq_true (c3 u)
   have e4:IntKind.i64.wrap ((k:Int)+1)=((k+1:Nat):Int):=by rw [wrap_i64]<;>omega
   rcases (by omega:k=0∨k=1∨k=2∨k=3) with rfl|rfl|rfl|rfl
   ·simp only [go_sem,mL,gText0,gText1,gText2,gText3,ay,hgd,hci,hsi,hsd,av hb,aG,ap,aI,e3,gtx,c3',e4,show IntKind.i64.wrap 1=1 from by decide,iNq,zok,uL,Cs,cF,List.flatMap_cons,List.flatMap_nil,c8,AV.cells,yal,yak]
    refine ⟨by decide,by decide,by decide,1,by decide,by decide,by simp only [zlf,zkq,zkv];have:=q4.nx;omega,lRq _,hclo 1 _,?_,?_⟩
    ·simp [ltF,znn,znp,znf,znh,lt_sliceL,znu,znv,zlf]
     omega
    ·simp [cf,wk2,wk1,wkM,Fr.get]
   ·simp only [go_sem,mL,gText0,gText1,gText2,gText3,ay,hgd,hci,hsi,hsd,av hb,aG,ap,aI,e3,gtx,c3',e4,show IntKind.i64.wrap 1=1 from by decide,iNq,zok,uL,Cs,cF,List.flatMap_cons,List.flatMap_nil,c8,AV.cells,yal,yak]
    refine ⟨by decide,by decide,by decide,2,by decide,by decide,by simp only [zlf,zkq,zkv];have:=q4.nx;omega,lRq _,hclo 2 _,?_,?_⟩
    ·simp [ltF,znn,znp,znf,znh,lt_sliceL,znu,znv,zlf]
     omega
    ·simp [cf,wk2,wk1,wkM,Fr.get]
   ·simp only [go_sem,mL,gText0,gText1,gText2,gText3,ay,hgd,hci,hsi,hsd,av hb,aG,ap,aI,e3,gtx,c3',e4,show IntKind.i64.wrap 1=1 from by decide,iNq,zok,uL,Cs,cF,List.flatMap_cons,List.flatMap_nil,c8,AV.cells,yal,yak]
    refine ⟨by decide,by decide,by decide,3,by decide,by decide,by simp only [zlf,zkq,zkv];have:=q4.nx;omega,lRq _,hclo 3 _,?_,?_⟩
    ·simp [ltF,znn,znp,znf,znh,lt_sliceL,znu,znv,zlf]
     omega
    ·simp [cf,wk2,wk1,wkM,Fr.get]
   ·simp only [go_sem,mL,gText0,gText1,gText2,gText3,ay,hgd,hci,hsi,hsd,av hb,aG,ap,aI,e3,gtx,c3',e4,show IntKind.i64.wrap 1=1 from by decide,iNq,zok,uL,Cs,cF,List.flatMap_cons,List.flatMap_nil,c8,AV.cells,yal,yak]
    refine ⟨by decide,by decide,by decide,4,by decide,by decide,by simp only [zlf,zkq,zkv];have:=q4.nx;omega,lRq _,hclo 4 _,?_,?_⟩
    ·simp [ltF,znn,znp,znf,znh,lt_sliceL,znu,znv,zlf]
     omega
    ·simp [cf,wk2,wk1,wkM,Fr.get]
  ·have hk4:k=4:=by simp at hc;omega
   subst hk4
   simp only [go_sem]
   have hr:bK 8 4 (uL b v 4)=(cF b v).map c8:=nB (by decide) (fun t=>(c8 t).cells) (fun _=>rfl) (cF b v)
   refine ⟨?_,?_,hcl2 _,bg fy⟩
   ·simp only [wk,wk2,wk1,hci,yap,hr,true_or,true_and]
    rw [zmv (by rw [zlf];exact q1)]
   ·exact ((q4.set _ (.inr q1)).set _ (.inl rfl)).le (hgd _ _)
def oV:=eG fun b v=>(.slice .any 5 ((du b v).map cy),v+4)
def CB (b:List UInt8) (v:Nat) (r1 r2:Bool):List AV:=((du b v).map fun a=>(⟨a.id,a.name,a.params,a.body,if a.id=3∧r1=true then [112,111,114,116,32,33,61,32,48] else if a.id=5∧r2=true then [120,32,60,32,121,32,124,124,32,120,32,61,61,32,49,53] else []⟩:SAction)).flatMap fun a=>(cy a).cells
theorem Dp {b:List UInt8} {v:Nat}:CB b v (decide (cv b (v+2) 2=1)) (decide (cv b (v+3) 2=1))=(du b v).flatMap fun a=>(cy a).cells:=by
 by_cases h1:cv b (v+2) 2=1<;>by_cases h2:cv b (v+3) 2=1<;>simp [CB,du,cy,AV.cells,h1,h2]
theorem xP:EntOk Tryz.prog 26 (Ent.effect oV):=by
 unfold oV
 refine EntOk.effect fun args H K h=>?_
 unfold eG at h
 split at h
 rotate_left
 ·exact h.elim
 rename_i id
 obtain ⟨b,v,hg,hb,hv,hK⟩:=fp h
 refine ⟨_,_,hK,?_⟩
 clear hK
 dsimp only
 generalize hres:AV.slice .any 5 ((du b v).map cy)=res
 refine ACalls.fW ah (tCq ff (tCq jf tNq)) Tryz.func26 [.tmp 2] (nrq _) (T:=ae [(2,[[],[],[],[],[],[],[],[],[],[],[],[],[],[],[],[],[],[],[],[],[],[],[],[],[],[],[],[],[],[],[],[],[],[29],[29,33],[],[],[],[29,33],[],[6,12,22,29,33]]),(802,[[100002],[100005],[100008],[100011],[100016],[100020],[100026],[100044]]),(1202,[[40]]),(3,[[1]])]) (h:=fun hcl hlt=>?_)
 clear hlt
 have hid:=glq hg
 have hne:=iJ hid
 have hne2:=iJ (show id<H.nx+1+1+1+1+1+1+1+1+1+1+1+1+1+1+1+1 by omega)
 have hgc:=fo (b:=b) hid
 have hcl2:∀ w,(H.set id (cr b w)).Closed:=fun w=>aP hcl fk
 have e2:(2:Int).toNat=2:=rfl
 have e256:(256:Int).toNat=256:=rfl
 have a22:∀ u,IntKind.i64.wrap (2+((cv b u 2:Nat):Int))=2+((cv b u 2:Nat):Int):=fun u=>by
  have:=cn (b:=b) (v:=u) (n:=2) (by decide)
  rw [wrap_i64 (by omega) (by omega)]
 have u256:∀ u,IntKind.u64.wrap ((cv b u 256:Nat):Int)=((cv b u 256:Nat):Int):=fun u=>by
  have:=cn (b:=b) (v:=u) (n:=256) (by decide)
  rw [cG (by omega) (by omega)]
 simp only [go_sem,ay,bm,hg,hgc,av hb,aG,ap,aI,hne,hne2,e2,e256,a22,u256]
 (repeat with_reducible refine Yq ?_)
 simp only [bk,bh,bhq,Nat.reduceMod,Nat.reduceDiv,aA,az,aB,aZ,aC,aY,aS,aU,aV,yaq,yar,yao,yap,go_sem,ay,bm,hg,hgc,av hb,aG,ap,aI,hne,hne2,e2,e256,a22,u256]
 refine vh (s:=4) (CB b v false false) rfl (by simp only [go_sem];rfl) ?_ ?_
 ·simp [CB,du,cy,mm,wd,vc,cp,AV.cells,jv,fP,fK,gH,fM,gC,jw,jR,jB,wkM]
  have:=cn (b:=b) (v:=v+1) (n:=256) (by decide)
  omega
 simp only [bk,bh,bhq,Nat.reduceMod,Nat.reduceDiv,aA,az,aB,aZ,aC,aY,aS,aU,aV,yaq,yar,yao,yap,go_sem,ay,bm,hg,hgc,av hb,aG,ap,aI,hne,hne2,e2,e256,a22,u256]
 refine af (fun h1=>?_) (fun h1=>?_)
 all_goals
  simp only [bk,bh,bhq,Nat.reduceMod,Nat.reduceDiv,aA,az,aB,aZ,aC,aY,aS,aU,aV,yaq,yar,yao,yap,go_sem,ay,bm,hg,hgc,av hb,aG,ap,aI,hne,hne2,e2,e256,a22,u256,CB,du,List.flatMap_cons,List.flatMap_nil,cy,AV.cells,yal,yak]
  (repeat with_reducible refine Yq ?_)
  refine af (fun h2=>?_) (fun h2=>?_)
 all_goals
  try simp only [bk,bh,bhq,Nat.reduceMod,Nat.reduceDiv,aA,az,aB,aZ,aC,aY,aS,aU,aV,yaq,yar,yao,yap,go_sem,ay,bm,hg,hgc,av hb,aG,ap,aI,hne,hne2,e2,e256,a22,u256,CB,du,List.flatMap_cons,List.flatMap_nil,cy,AV.cells,yal,yak]
  (repeat with_reducible refine Yq ?_)
  have hA:=Dp (b:=b) (v:=v)
  rw [show decide (cv b (v+2) 2=1)=_ from h1,show decide (cv b (v+3) 2=1)=_ from h2] at hA
  have hr:=nB (sz:=5) (by decide) (fun t=>(cy t).cells) (fun _=>rfl) (du b v)
  rw [← hA] at hr
  subst hres
  refine ⟨?_,?_,hcl2 _,bg lN⟩
  ·simp only [wk,wk2,wk1,go_sem,yap,true_or,true_and]
   refine ⟨?_,?_⟩
   ·exact hr.symm
   ·rw [zmv (by (try simp only [zlf]);omega)]
  ·refine But.le (id:=id) ?_ ?_
   ·repeat (first|exact But.self|refine But.push ?_ _|refine But.set ?_ _ (by first|exact .inl rfl|exact .inr (by (try simp only [zle,zlf]);omega)))
   ·simp only [go_sem,hne,hne2,hgc,cp]
end Go.AL
