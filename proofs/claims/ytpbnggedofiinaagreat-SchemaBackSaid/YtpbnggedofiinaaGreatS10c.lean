/- Lemmas of the proof; no condition. -/
import Derived.Test.YtpbnggedofiinaaGreatS10z
import Derived.Test.YtpbnggedofiinaaGreatLGen
import Derived.Test.YtpbnggedofiinaaGreatLRdS
set_option linter.all false
set_option maxRecDepth 10000
set_option maxHeartbeats 32000000
open List renaming length_cons → yaz, length_nil → yba, take_of_length_le → ybc, drop_append → ybd, take_append → ybe, drop_eq_nil_of_le → ybf, cons_append → yal, nil_append → yak, take_succ_cons → yaq, take_zero → yar, drop_succ_cons → yao, drop_zero → yap, map_cons → yae
open Go Go.AL Go.Proofs
namespace Go.AL
theorem FV:ti Tryz.prog 3=some ⟨.int .i64,1,8,.int .i64 0⟩:=by kernel_rfl
theorem zR:ti Tryz.prog 72=some ⟨.struct [(0,3,false),(1,9,false),(2,3,false)],3,32,.agg [.int .i64 0,.str [],.int .i64 0]⟩:=by kernel_rfl
theorem xq:ti Tryz.prog 75=some ⟨.struct [(0,3,false),(1,9,false),(2,73,false)],3,48,.agg [.int .i64 0,.str [],.slice .nil 1 []]⟩:=by kernel_rfl
theorem Cp:ti Tryz.prog 217=some ⟨.struct [(0,38,false),(2,38,false),(4,3,false)],5,40,.agg [.int .u64 0,.int .u64 0,.int .u64 0,.int .u64 0,.int .i64 0]⟩:=by kernel_rfl
theorem zI:ti Tryz.prog 147=some ⟨.struct [(0,3,false),(1,3,false),(2,3,false),(3,145,false),(4,3,false)],5,56,.agg [.int .i64 0,.int .i64 0,.int .i64 0,.slice .nil 1 [],.int .i64 0]⟩:=by kernel_rfl
theorem CG:ti Tryz.prog 221=some ⟨.struct [(0,3,false),(1,3,false),(2,219,false)],6,48,.agg [.int .i64 0,.int .i64 0,.int .i64 0,.int .i64 0,.int .u64 0,.int .u64 0]⟩:=by kernel_rfl
theorem vY:ti Tryz.prog 219=some ⟨.struct [(0,3,false),(1,3,false),(2,38,false)],4,32,.agg [.int .i64 0,.int .i64 0,.int .u64 0,.int .u64 0]⟩:=by kernel_rfl
theorem zU:ti Tryz.prog 223=some ⟨.struct [(0,9,false),(1,3,false)],2,24,.agg [.str [],.int .i64 0]⟩:=by kernel_rfl
theorem xN:ti Tryz.prog 157=some ⟨.struct [(0,3,false),(1,9,false),(2,154,false),(3,155,false),(4,9,false)],5,88,.agg [.int .i64 0,.str [],.slice .nil 1 [],.slice .nil 1 [],.str []]⟩:=by kernel_rfl
theorem Fq:ti Tryz.prog 225=some ⟨.struct [(0,9,false),(1,3,false),(2,3,false)],3,32,.agg [.str [],.int .i64 0,.int .i64 0]⟩:=by kernel_rfl
theorem Ae:ti Tryz.prog 87=some ⟨.struct [(0,3,false),(1,9,false),(2,84,false),(3,73,false),(4,3,false),(5,85,false),(6,3,false),(7,9,false)],8,128,.agg [.int .i64 0,.str [],.slice .nil 1 [],.slice .nil 1 [],.int .i64 0,.slice .nil 1 [],.int .i64 0,.str []]⟩:=by kernel_rfl
theorem AZ:ti Tryz.prog 81=some ⟨.struct [(0,3,false),(1,3,false)],2,16,.agg [.int .i64 0,.int .i64 0]⟩:=by kernel_rfl
theorem Aj:ti Tryz.prog 203=some ⟨.struct [(0,3,false),(1,4,false),(2,4,false),(3,201,false)],4,40,.agg [.int .i64 0,.bool false,.bool false,.slice .nil 1 []]⟩:=by kernel_rfl
theorem C6:ti Tryz.prog 178=some ⟨.struct [(0,3,false),(1,9,false),(2,176,false),(3,73,false),(4,3,false),(5,4,false)],6,88,.agg [.int .i64 0,.str [],.slice .nil 1 [],.slice .nil 1 [],.int .i64 0,.bool false]⟩:=by kernel_rfl
theorem FD:ti Tryz.prog 83=some ⟨.struct [(0,3,false),(1,3,false),(2,3,false),(3,3,false),(4,3,false),(5,3,false)],6,48,.agg [.int .i64 0,.int .i64 0,.int .i64 0,.int .i64 0,.int .i64 0,.int .i64 0]⟩:=by kernel_rfl
theorem wJ:ti Tryz.prog 32=some ⟨.struct [(0,23,false),(1,24,false),(2,25,false),(3,26,false),(4,27,false),(5,28,false),(6,29,false),(7,30,false),(8,3,false),(9,3,false)],10,208,.agg [.slice .nil 1 [],.slice .nil 1 [],.slice .nil 1 [],.slice .nil 1 [],.slice .nil 1 [],.slice .nil 1 [],.slice .nil 1 [],.slice .nil 1 [],.int .i64 0,.int .i64 0]⟩:=by kernel_rfl
theorem Ab:ti Tryz.prog 254=some ⟨.struct [(0,4,false),(1,38,false),(3,38,false),(5,3,false),(6,38,false)],8,64,.agg [.bool false,.int .u64 0,.int .u64 0,.int .u64 0,.int .u64 0,.int .i64 0,.int .u64 0,.int .u64 0]⟩:=by kernel_rfl
theorem zZ:ti Tryz.prog 90=some ⟨.struct [(0,3,false),(1,88,false),(2,3,false),(3,3,false),(4,85,false)],5,72,.agg [.int .i64 0,.slice .nil 1 [],.int .i64 0,.int .i64 0,.slice .nil 1 []]⟩:=by kernel_rfl
theorem Ao:ti Tryz.prog 23=some ⟨.slice 72,1,24,.slice .nil 1 []⟩:=by kernel_rfl
theorem xB:ti Tryz.prog 24=some ⟨.slice 75,1,24,.slice .nil 1 []⟩:=by kernel_rfl
theorem Ci:ti Tryz.prog 145=some ⟨.slice 217,1,24,.slice .nil 1 []⟩:=by kernel_rfl
theorem Au:ti Tryz.prog 25=some ⟨.slice 147,1,24,.slice .nil 1 []⟩:=by kernel_rfl
theorem Cc:ti Tryz.prog 155=some ⟨.slice 221,1,24,.slice .nil 1 []⟩:=by kernel_rfl
theorem A1:ti Tryz.prog 154=some ⟨.slice 223,1,24,.slice .nil 1 []⟩:=by kernel_rfl
theorem xe:ti Tryz.prog 26=some ⟨.slice 157,1,24,.slice .nil 1 []⟩:=by kernel_rfl
theorem F0:ti Tryz.prog 84=some ⟨.slice 225,1,24,.slice .nil 1 []⟩:=by kernel_rfl
theorem z3:ti Tryz.prog 27=some ⟨.slice 87,1,24,.slice .nil 1 []⟩:=by kernel_rfl
theorem Ac:ti Tryz.prog 28=some ⟨.slice 81,1,24,.slice .nil 1 []⟩:=by kernel_rfl
theorem Ar:ti Tryz.prog 176=some ⟨.slice 203,1,24,.slice .nil 1 []⟩:=by kernel_rfl
theorem CW:ti Tryz.prog 29=some ⟨.slice 178,1,24,.slice .nil 1 []⟩:=by kernel_rfl
theorem EY:ti Tryz.prog 30=some ⟨.slice 83,1,24,.slice .nil 1 []⟩:=by kernel_rfl
theorem AC:ti Tryz.prog 88=some ⟨.slice 254,1,24,.slice .nil 1 []⟩:=by kernel_rfl
theorem A4:ti Tryz.prog 44=some ⟨.slice 90,1,24,.slice .nil 1 []⟩:=by kernel_rfl
theorem FL:ti Tryz.prog 85=some ⟨.slice 38,1,24,.slice .nil 1 []⟩:=by kernel_rfl
theorem Fu:ti Tryz.prog 73=some ⟨.slice 3,1,24,.slice .nil 1 []⟩:=by kernel_rfl
theorem Cq:ti Tryz.prog 201=some ⟨.slice 4,1,24,.slice .nil 1 []⟩:=by kernel_rfl
attribute [go_sem] FV zR xq Cp zI CG vY zU xN Fq Ae AZ Aj C6 FD wJ Ab zZ Ao xB Ci Au Cc A1 xe F0 z3 Ac Ar CW EY AC A4 FL Fu Cq
def bF:List AV→AHeap→(AEnd→AHeap→Prop)→Prop
 |[.ptr id 0],H,K=>onC (H.get id) fun b v=>K (.ret (.bool (decide (cv b v 2=1)))) (H.set id (fo b (v+1)))
 |_,_,_=>False
theorem ll:EntOk Tryz.prog 29 (Ent.effect bF):=by
 refine EntOk.effect fun args H K h=>?_
 unfold bF at h
 split at h
 rotate_left
 ·exact h.elim
 rename_i id
 obtain ⟨b,v,hg,hb,hv,hK⟩:=lQ h
 refine ⟨_,_,hK,?_⟩
 clear hK
 refine ACalls.fW ag (tCq lm tNq) Tryz.func29 [.tmp 2] (nrq _) (T:=af []) (h:=fun hcl hlt=>?_)
 clear hlt
 have hid:=glq hg
 have hcl2:(H.set id (fo b (v+1))).Closed:=cF hcl jY
 have e2:(2:Int).toNat=2:=rfl
 simp only [go_sem,bR,hg,bQ hb,cp,e2,Nat.add_zero,Nat.min_eq_left hv]
 have e:((((cv b v 2:Nat):Int))==1)=decide (cv b v 2=1):=by rw [Bool.eq_iff_iff];simp;omega
 refine ⟨⟨by decide,by decide⟩,?_⟩
 rw [e]
 simp (disch:=first|exact Zd|omega) [↓zmo,beq,ybc,ybd,ybe,aa,wk,wk2,wk1,wkM,wkL,ak,ybf,hcl2]
theorem pV {id n:Nat} (h:id<n):((id=n)=False)∧((id=n+1)=False)∧((id=n+1+1)=False)∧((id=n+1+1+1)=False)∧((id=n+1+1+1+1)=False)∧((id=n+1+1+1+1+1)=False)∧((id=n+1+1+1+1+1+1)=False)∧((id=n+1+1+1+1+1+1+1)=False)∧((id=n+1+1+1+1+1+1+1+1)=False)∧((id=n+1+1+1+1+1+1+1+1+1)=False)∧((id=n+1+1+1+1+1+1+1+1+1+1)=False)∧((id=n+1+1+1+1+1+1+1+1+1+1+1)=False)∧((id=n+1+1+1+1+1+1+1+1+1+1+1+1)=False)∧((id=n+1+1+1+1+1+1+1+1+1+1+1+1+1)=False)∧((id=n+1+1+1+1+1+1+1+1+1+1+1+1+1+1)=False)∧((id=n+1+1+1+1+1+1+1+1+1+1+1+1+1+1+1)=False) :=
 ⟨eq_false (by omega),eq_false (by omega),eq_false (by omega),eq_false (by omega),eq_false (by omega),eq_false (by omega),eq_false (by omega),eq_false (by omega),eq_false (by omega),eq_false (by omega),eq_false (by omega),eq_false (by omega),eq_false (by omega),eq_false (by omega),eq_false (by omega),eq_false (by omega)⟩
theorem ml {H:AHeap} {id:Nat} (h:id<H.nx) (b:List UInt8) (v:Nat):(H.set id (fo b v)).get id=some (fo b v):=AHeap.get_set_same _ _ h
theorem jl {b:List UInt8} {v:Nat}:([AV.int .i64 0,.int .i64 0,.int .i64 65535,.int .i64 3].getD (cv b v 4) .junk)=.int .i64 (kw (cv b v 4)):=by
 have h:=eO (b:=b) (v:=v) (n:=4) (by decide)
 unfold kw
 generalize cv b v 4=c at *
 match c,h with
 |0,_=>rfl
 |1,_=>rfl
 |2,_=>rfl
 |3,_=>rfl
theorem aA {α:Type} {n sz:Nat} {f:α→AV} {l:List α} (h:∀ x,AV.lt n (f x)):AV.lt n (.slice .any sz (l.map f)):=tu fun x hx=>by
 obtain ⟨y,_,rfl⟩:=List.mem_map.1 hx
 exact h y
theorem jy {n v:Nat} {l:List AV}:ltL n (vc v++l)=ltL n l:=by simp [vc,znu,znf]
theorem gS {n v:Nat}:ltL n (vc v)=True:=by simp [vc,znu,znv,znf]
theorem wD {n:Nat} {l:List Int}:AV.lt n (.slice .any 1 (inL l)):=aA fun x=>by simp only [znf]
theorem CB {n:Nat} {l:List Bool}:AV.lt n (.slice .any 1 (boL l)):=aA fun x=>by simp only [zng]
theorem Hl {n:Nat} {l:List Nat}:AV.lt n (.slice .any 2 (l.map vv)):=aA fun x=>by simp only [vv,znr,znu,znv,znf,and_true]
theorem Eq {n:Nat} (x:SField):AV.lt n (br x):=by
 simp only [br,znr,znu,znv,znf,znh,zng,jy,gS,List.append_assoc,yal,yak,true_and,and_true]
theorem zD {n:Nat} (x:SHeader):AV.lt n (bc x):=by
 simp only [bc,znr,znu,znv,znf,znh,zng,jy,gS,List.append_assoc,yal,yak,true_and,and_true]
 exact wD
theorem FP {n:Nat} (x:SCase):AV.lt n (bW x):=by
 simp only [bW,znr,znu,znv,znf,znh,zng,jy,gS,List.append_assoc,yal,yak,true_and,and_true]
theorem iU {n:Nat} (x:SState):AV.lt n (a0 x):=by
 simp only [a0,znr,znu,znv,znf,znh,zng,jy,gS,List.append_assoc,yal,yak,true_and,and_true]
 exact aA FP
theorem Gf {n:Nat} (x:SPrim):AV.lt n (bY x):=by
 simp only [bY,znr,znu,znv,znf,znh,zng,jy,gS,List.append_assoc,yal,yak,true_and,and_true]
theorem Dd {n:Nat} (x:SParam):AV.lt n (bE x):=by
 simp only [bE,znr,znu,znv,znf,znh,zng,jy,gS,List.append_assoc,yal,yak,true_and,and_true]
theorem sS {n:Nat} (x:SAction):AV.lt n (aI x):=by
 simp only [aI,znr,znu,znv,znf,znh,zng,jy,gS,List.append_assoc,yal,yak,true_and,and_true]
 exact ⟨aA Dd,aA Gf⟩
theorem GZ {n:Nat} (x:SKey):AV.lt n (cH x):=by
 simp only [cH,znr,znu,znv,znf,znh,zng,jy,gS,List.append_assoc,yal,yak,true_and,and_true]
theorem fT {n:Nat} (x:STable):AV.lt n (aH x):=by
 simp only [aH,znr,znu,znv,znf,znh,zng,jy,gS,List.append_assoc,yal,yak,true_and,and_true]
 exact ⟨aA GZ,wD,Hl⟩
theorem Dj {n:Nat} (x:SStage):AV.lt n (bx x):=by
 simp only [bx,znr,znu,znv,znf,znh,zng,jy,gS,List.append_assoc,yal,yak,true_and,and_true]
theorem oS {n:Nat} (x:SGrant):AV.lt n (aN x):=by
 simp only [aN,znr,znu,znv,znf,znh,zng,jy,gS,List.append_assoc,yal,yak,true_and,and_true]
 exact CB
theorem yz {n:Nat} (x:SRole):AV.lt n (bH x):=by
 simp only [bH,znr,znu,znv,znf,znh,zng,jy,gS,List.append_assoc,yal,yak,true_and,and_true]
 exact ⟨aA oS,wD⟩
theorem G6 {n:Nat} (x:SRef):AV.lt n (cP x):=by
 simp only [cP,znr,znu,znv,znf,znh,zng,jy,gS,List.append_assoc,yal,yak,true_and,and_true]
theorem kA {n:Nat} (x:Sch):AV.lt n (fL x):=by
 simp only [fL,a9,znr,znu,znv,znf,true_and,and_true]
 exact ⟨aA Eq,aA zD,aA iU,aA sS,aA fT,aA Dj,aA yz,aA G6⟩
theorem Gr {b:List UInt8} {u n:Nat} (h:0<n):(0≤((cv b u n:Nat):Int)∧((cv b u n:Nat):Int)<(n:Int))=True:=eq_true ⟨by omega,by have:=eO (b:=b) (v:=u) h;omega⟩
def eG (g:List UInt8→Nat→AV × Nat):List AV→AHeap→(AEnd→AHeap→Prop)→Prop
 |[.ptr id 0],H,K=>onC (H.get id) fun b v=>K (.ret (g b v).1) (H.set id (fo b (g b v).2))
 |_,_,_=>False
def pB:=eG fun b v=>(.slice .any 5 ((bz b v).1.map a0),(bz b v).2)
theorem wM:EntOk Tryz.prog 25 (Ent.effect pB):=by
 unfold pB
 refine EntOk.effect fun args H K h=>?_
 unfold eG at h
 split at h
 rotate_left
 ·exact h.elim
 rename_i id
 obtain ⟨b,v,hg,hb,hv,hK⟩:=lQ h
 refine ⟨_,_,hK,?_⟩
 clear hK
 refine ACalls.fW ag (tCq lm (tCq ll tNq)) Tryz.func25 [.tmp 2] (nrq _) (T:=af [(5,[[],[],[],[],[],[3],[],[],[],[],[3],[],[3,10],[],[3,10,12],[1,3,10,12],[],[1,3,10,12]]),(10,[[16]])]) (h:=fun hcl hlt=>?_)
 clear hlt
 have hid:=glq hg
 have hne:=pV hid
 have hgc:=ml (b:=b) hid
 have hcl2:∀ w,(H.set id (fo b w)).Closed:=fun w=>cF hcl jY
 have c4:∀ u,(0≤((cv b u 4:Nat):Int)∧((cv b u 4:Nat):Int)<((4:Nat):Int))=True:=fun u=>Gr (by decide)
 simp only [go_sem,bR,bF,hg,hgc,bQ hb,cw,bv,cQ,hne,jl,c4,iNq]
 have w8:∀ u,IntKind.u64.wrap (IntKind.i64.wrap (8*((cv b u 2:Nat):Int)))=((8*cv b u 2:Nat):Int):=fun u=>by
  have:=eO (b:=b) (v:=u) (n:=2) (by decide)
  rw [wrap_i64 (by omega) (by omega),iA (by omega) (by omega)];omega
 have w1:∀ u,IntKind.i64.wrap (1+((cv b u 3:Nat):Int))=1+((cv b u 3:Nat):Int):=fun u=>by
  have:=eO (b:=b) (v:=u) (n:=3) (by decide)
  rw [wrap_i64 (by omega) (by omega)]
 have hvs:∀ u,vc (8*cv b u 2)=[.int .u64 0,.int .u64 ((8*cv b u 2:Nat):Int)]:=fun u=>mr (by
  have:=eO (b:=b) (v:=u) (n:=2) (by decide)
  omega)
 refine ⟨by decide,ae (fun h1=>?_) (fun h1=>?_)⟩
 ·have h1':cv b (v+1) 2=1:=of_decide_eq_true h1
  simp only [dt,du,bhq,Nat.reduceMod,Nat.reduceDiv,bh,bg,bm,cz,bk,cy,cr,cx,cu,yaq,yar,yao,yap,go_sem,bR,bF,hg,hgc,bQ hb,cw,bv,cQ,hne,jl,c4,w8,w1,iNq]
  refine ⟨by decide,by decide,⟨by simp [ziq,zgq,zgr,zgs],by decide,by decide,ae (fun h2=>?_) (fun h2=>?_)⟩⟩
  ·have h2':cv b (v+5) 3=1:=by simp [cp] at h2;omega
   simp only [dt,du,bhq,Nat.reduceMod,Nat.reduceDiv,bh,bg,bm,cz,bk,cy,cr,cx,cu,yaq,yar,yao,yap,go_sem,bR,bF,hg,hgc,bQ hb,cw,bv,cQ,hne,jl,c4,w8,w1,iNq]
   refine ⟨by decide,?_⟩
   refine iP 2 (.slice .any 5 ((bz b v).1.map a0)) ?_ ?_
   ·exact Z5
   ·have e:(bz b v).2=cp v 7:=by unfold bz;simp only [h1',h2',if_true,if_false];rfl
    rw [e]
    simp only [go_sem,bhq,Nat.reduceMod,Nat.reduceDiv,bh,bg,bm,cz,bk,cy,cr,cx,cu,yaq,yar,yao,yap]
    simp (disch:=first|exact Zd|omega) [↓zmo,beq,ybc,ybd,ybe,aa,wk,wk2,wk1,wkM,wkL,ak,ybf,hcl2]
    first|exact aA iU|exact ⟨by repeat first|exact .refl _|refine .push ?_ _,aA iU⟩
  ·have h2':¬ cv b (v+5) 3=1:=by simp [cp] at h2;omega
   simp only [dt,du,bhq,Nat.reduceMod,Nat.reduceDiv,bh,bg,bm,cz,bk,cy,cr,cx,cu,yaq,yar,yao,yap,go_sem,bR,bF,hg,hgc,bQ hb,cw,bv,cQ,hne,jl,c4,w8,w1,iNq]
   refine iP 2 (.slice .any 5 ((bz b v).1.map a0)) ?_ ?_
   ·exact Z5
   ·have e:(bz b v).2=cp v 6:=by unfold bz;simp only [h1',h2',if_true,if_false];rfl
    rw [e]
    simp only [go_sem,bhq,Nat.reduceMod,Nat.reduceDiv,bh,bg,bm,cz,bk,cy,cr,cx,cu,yaq,yar,yao,yap]
    simp (disch:=first|exact Zd|omega) [↓zmo,beq,ybc,ybd,ybe,aa,wk,wk2,wk1,wkM,wkL,ak,ybf,hcl2]
    first|exact aA iU|exact ⟨by repeat first|exact .refl _|refine .push ?_ _,aA iU⟩
 ·have h1':¬ cv b (v+1) 2=1:=of_decide_eq_false h1
  simp only [dt,du,bhq,Nat.reduceMod,Nat.reduceDiv,bh,bg,bm,cz,bk,cy,cr,cx,cu,yaq,yar,yao,yap,go_sem,bR,bF,hg,hgc,bQ hb,cw,bv,cQ,hne,jl,c4,w8,w1,iNq]
  refine ⟨by decide,by decide,ae (fun h2=>?_) (fun h2=>?_)⟩
  ·have h2':cv b (v+3) 3=1:=by simp [cp] at h2;omega
   simp only [dt,du,bhq,Nat.reduceMod,Nat.reduceDiv,bh,bg,bm,cz,bk,cy,cr,cx,cu,yaq,yar,yao,yap,go_sem,bR,bF,hg,hgc,bQ hb,cw,bv,cQ,hne,jl,c4,w8,w1,iNq]
   refine ⟨by decide,?_⟩
   refine iP 2 (.slice .any 5 ((bz b v).1.map a0)) ?_ ?_
   ·exact Z5
   ·have e:(bz b v).2=cp v 5:=by unfold bz;simp only [h1',h2',if_true,if_false];rfl
    rw [e]
    simp only [go_sem,bhq,Nat.reduceMod,Nat.reduceDiv,bh,bg,bm,cz,bk,cy,cr,cx,cu,yaq,yar,yao,yap]
    simp (disch:=first|exact Zd|omega) [↓zmo,beq,ybc,ybd,ybe,aa,wk,wk2,wk1,wkM,wkL,ak,ybf,hcl2]
    first|exact aA iU|exact ⟨by repeat first|exact .refl _|refine .push ?_ _,aA iU⟩
  ·have h2':¬ cv b (v+3) 3=1:=by simp [cp] at h2;omega
   simp only [dt,du,bhq,Nat.reduceMod,Nat.reduceDiv,bh,bg,bm,cz,bk,cy,cr,cx,cu,yaq,yar,yao,yap,go_sem,bR,bF,hg,hgc,bQ hb,cw,bv,cQ,hne,jl,c4,w8,w1,iNq]
   refine iP 2 (.slice .any 5 ((bz b v).1.map a0)) ?_ ?_
   ·exact Z5
   ·have e:(bz b v).2=cp v 4:=by unfold bz;simp only [h1',h2',if_true,if_false];rfl
    rw [e]
    simp only [go_sem,bhq,Nat.reduceMod,Nat.reduceDiv,bh,bg,bm,cz,bk,cy,cr,cx,cu,yaq,yar,yao,yap]
    simp (disch:=first|exact Zd|omega) [↓zmo,beq,ybc,ybd,ybe,aa,wk,wk2,wk1,wkM,wkL,ak,ybf,hcl2]
    first|exact aA iU|exact ⟨by repeat first|exact .refl _|refine .push ?_ _,aA iU⟩
theorem wS:ti Tryz.prog 226=some ⟨.slice 9,1,24,.slice .nil 1 []⟩:=by kernel_rfl
theorem ws:ti Tryz.prog 227=some ⟨.slice 226,1,24,.slice .nil 1 []⟩:=by kernel_rfl
attribute [go_sem] wS ws
def JnT {α:Type} (F:α→Fr) (G:α→AHeap) (I:α→Prop) (K:Fr→AHeap→Prop):Prop:=∀ x,I x→K (F x) (G x)
theorem CV {α:Type} (F:α→Fr) (G:α→AHeap) (I:α→Prop) {K:Fr→AHeap→Prop} {C:Prop} (h:JnT F G I K→C) (hJ:JnT F G I K):C:=h hJ
theorem xn {F:Nat × AHeap→Fr} {I:Nat × AHeap→Prop} {n0 s id off sz len:Nat} {K:Fr→AHeap→Prop} {fr:Fr} {H:AHeap} (J:JnT F (fun x=>x.2) (fun x=>x.2.Closed∧I x) K) (hs:Fr.get fr s=.ms id off sz len) (hc:H.Closed) (hx:I (id,H)) (hn:n0≤H.nx) (hl:ltF H.nx (F (id,H))) (hw:aM H H (F (id,H)) fr):jS n0 K fr H:=s6 _ _ ⟨hn,lRq _,hc,hl,hw⟩ (J _ ⟨hc,hx⟩)
theorem sO {n0 s id off sz len:Nat} {K:Fr→AHeap→Prop} {fr:Fr} {H:AHeap} {cs:List AV} (cs':List AV) (hs:Fr.get fr s=.ms id off sz len) (hc:ay H id=some cs) (h:lJ cs cs') (hk:K fr (H.set id (.cells cs'))):jS n0 K fr H:=D3 id cs' hc h hk
structure But (id:Nat) (H Hc:AHeap):Prop where
 nx:H.nx≤Hc.nx
 get:∀ j x,j≠id→H.get j=some x→Hc.get j=some x
theorem But.push {id:Nat} {H Hc:AHeap} (h:But id H Hc) (o:AObj):But id H (Hc.push o):=⟨by rw [zle];exact Nat.le_succ_of_le h.nx,fun j x hj hx=>by
 have:=h.get j x hj hx
 rw [gPq _ _ (glq this)];exact this⟩
theorem But.set {id i:Nat} {H Hc:AHeap} (h:But id H Hc) (o:AObj) (hi:i=id∨H.nx≤i):But id H (Hc.set i o):=⟨by rw [zlf];exact h.nx,fun j x hj hx=>by
 have hlt:=glq hx
 rw [AHeap.get_set_ne _ _ (by rcases hi with rfl|hi<;>omega)]
 exact h.get j x hj hx⟩
theorem But.del {id i:Nat} {H Hc:AHeap} (h:But id H Hc) (hi:H.nx≤i):But id H (Hc.del i):=⟨by rw [iN];exact h.nx,fun j x hj hx=>by
 have hlt:=glq hx
 rw [lE,if_neg (by omega)]
 exact h.get j x hj hx⟩
theorem But.self {id:Nat} {H:AHeap}:But id H H:=⟨nrq _,fun _ _ _ h=>h⟩
theorem But.le {id:Nat} {H Hc:AHeap} {o:AObj} (h:But id H Hc) (hg:Hc.get id=some o):(H.set id o).Le Hc:=Ff h.get hg h.nx
theorem tI {H:AHeap} {i j:Nat} {o o':AObj} (h:i≠j):(H.set i o).set j o'=(H.set j o').set i o:=by
 simp only [AHeap.set,AHeap.mk.injEq,true_and]
 funext k
 by_cases h1:k=i
 ·subst h1;simp [h]
 ·simp [h1]
theorem Ep {H:AHeap} {i:Nat} {o o':AObj}:(H.set i o).set i o'=H.set i o':=by
 simp only [AHeap.set,AHeap.mk.injEq,true_and]
 funext k
 by_cases h1:k=i<;>simp [h1]
def A5 (b:List UInt8) (v k:Nat):List STable:=(bZ b v).take k++((bZ b v).drop k).map fun t=>{ t with restr:=[] }
def sq (b:List UInt8) (v k:Nat):List AV:=(A5 b v k).flatMap fun t=>(aH t).cells
theorem ve {α:Type} {n:Nat} {f:α→AV} {l:List α} (h:∀ x,AV.lt n (f x)):ltL n (l.flatMap fun x=>(f x).cells):=ltL_iff.2 fun j hj=>by
 obtain ⟨x,_,hx⟩:=List.mem_flatMap.1 (gMq hj)
 obtain ⟨k,hk,e⟩:=List.mem_iff_getElem.1 hx
 rw [← e];exact AV.lt_cells (h x) k hk
theorem mG {α:Type} {sz:Nat} (h1:sz≠1) (f:α→List AV) (hf:∀ x,(f x).length=sz):∀ l:List α,bM sz l.length (l.flatMap f)=l.map fun x=>.agg (f x)
 |[]=>rfl
 |x::l=>by
  rw [yaz,List.flatMap_cons,bM,if_neg h1,yae,show (f x++l.flatMap f).drop sz=l.flatMap f by rw [← hf x,List.drop_left],mG h1 f hf l]
  congr 2
  apply List.ext_getElem
  ·simp [hf]
  ·intro j a1 a2
   simp only [List.getElem_map,List.getElem_range]
   rw [gEq,List.getElem?_append_left a2,gQq a2];rfl
def lX:AV:=.slice .any 1 [.slice .any 1 (gText0.map .str),.slice .any 1 (gText1.map .str),.slice .any 1 (gText2.map .str),.slice .any 1 (gText3.map .str)]
def pF:=eG fun b v=>(.slice .any 8 ((bZ b v).map aH),v+12)
theorem yk:EntOk Tryz.prog 27 (Ent.effect pF):=by
 unfold pF
 refine EntOk.effect fun args H K h=>?_
 unfold eG at h
 split at h
 rotate_left
 ·exact h.elim
 rename_i id
 obtain ⟨b,v,hg,hb,hv,hK⟩:=lQ h
 refine ⟨_,_,hK,?_⟩
 clear hK
 refine ACalls.fW ag (tCq lm (tCq ll tNq)) Tryz.func27 [.tmp 2] (nrq _) (T:=af [(16,[[],[],[],[],[],[],[],[],[],[7],[],[],[5,7,9]]),(11,[[14]]),(13,[[1,1,1]])]) (h:=fun hcl hlt=>?_)
 clear hlt
 have hid:=glq hg
 have hne:=pV hid
 have hne2:=pV (show id<H.nx+1+1+1+1+1+1+1+1+1+1+1+1+1+1+1+1 by omega)
 have hgc:=ml (b:=b) hid
 have hcl2:∀ w,(H.set id (fo b w)).Closed:=fun w=>cF hcl jY
 have c3:∀ u,(0≤((cv b u 3:Nat):Int)∧((cv b u 3:Nat):Int)<((3:Nat):Int))=True:=fun u=>Gr (by decide)
 have w1:∀ (u n:Nat) (k:Int),0<n→n≤100→0≤k→k≤100→IntKind.i64.wrap (k+((cv b u n:Nat):Int))=k+((cv b u n:Nat):Int):=fun u n k h1 h2 h3 h4=>by
  have:=eO (b:=b) (v:=u) (n:=n) h1
  rw [wrap_i64 (by omega) (by omega)]
 have e2:(2:Int).toNat=2:=rfl
 have e5:(5:Int).toNat=5:=rfl
 have e6:(6:Int).toNat=6:=rfl
 have e3:(3:Int).toNat=3:=rfl
 have a12:∀ u,IntKind.i64.wrap (1+((cv b u 2:Nat):Int))=1+((cv b u 2:Nat):Int):=fun u=>w1 u 2 1 (by decide) (by decide) (by decide) (by decide)
 have a25:∀ u,IntKind.i64.wrap (2+((cv b u 5:Nat):Int))=2+((cv b u 5:Nat):Int):=fun u=>w1 u 5 2 (by decide) (by decide) (by decide) (by decide)
 have a36:∀ u,IntKind.i64.wrap (3+((cv b u 6:Nat):Int))=3+((cv b u 6:Nat):Int):=fun u=>w1 u 6 3 (by decide) (by decide) (by decide) (by decide)
 have a46:∀ u,IntKind.i64.wrap (4+((cv b u 6:Nat):Int))=4+((cv b u 6:Nat):Int):=fun u=>w1 u 6 4 (by decide) (by decide) (by decide) (by decide)
 have a35:∀ u,IntKind.i64.wrap (3+((cv b u 5:Nat):Int))=3+((cv b u 5:Nat):Int):=fun u=>w1 u 5 3 (by decide) (by decide) (by decide) (by decide)
 simp only [go_sem,bR,bF,hg,hgc,bQ hb,cw,bv,cQ,hne,e2,e3,e5,e6,a12,a25,a36,a46,a35]
 apply CV (α:=Nat × AHeap) (fun x=>[(0,.ptr id 0),(7,.ms x.1 0 8 4),(8,lX)]) (fun x=>x.2) (fun x=>x.2.Closed∧H.nx≤x.1∧x.1<x.2.nx∧But id H x.2∧x.2.get id=some (fo b (cp v 8))∧x.2.get x.1=some (.cells (sq b v 0)))
 ·intro J
  (repeat with_reducible refine Yq ?_)
  refine ae (fun h1=>?_) (fun h1=>?_)
  all_goals
   simp only [dt,du,bhq,Nat.reduceMod,Nat.reduceDiv,bh,bg,bm,cz,bk,cy,cr,cx,cu,yaq,yar,yao,yap,go_sem,bR,bF,hg,hgc,bQ hb,cw,bv,cQ,hne,e2,e3,e5,e6,a12,a25,a36,a46,a35]
   (repeat with_reducible refine Yq ?_)
   refine ae (fun h2=>?_) (fun h2=>?_)
  all_goals
   simp only [dt,du,bhq,Nat.reduceMod,Nat.reduceDiv,bh,bg,bm,cz,bk,cy,cr,cx,cu,yaq,yar,yao,yap,go_sem,bR,bF,hg,hgc,bQ hb,cw,bv,cQ,hne,e2,e3,e5,e6,a12,a25,a36,a46,a35]
   (repeat with_reducible refine Yq ?_)
   refine ae (fun h3=>?_) (fun h3=>?_)
  all_goals
   simp only [dt,du,bhq,Nat.reduceMod,Nat.reduceDiv,bh,bg,bm,cz,bk,cy,cr,cx,cu,yaq,yar,yao,yap,go_sem,bR,bF,hg,hgc,bQ hb,cw,bv,cQ,hne,e2,e3,e5,e6,a12,a25,a36,a46,a35]
   (repeat with_reducible refine Yq ?_)
   refine sO (s:=7) (sq b v 0) rfl (by simp only [go_sem];rfl) ?_ ?_
   ·first|replace h1:=of_decide_eq_true h1|replace h1:=of_decide_eq_false h1
    first|replace h2:=of_decide_eq_true h2|replace h2:=of_decide_eq_false h2
    first|replace h3:=of_decide_eq_true h3|replace h3:=of_decide_eq_false h3
    simp only [cp] at h1 h2 h3
    simp [sq,A5,bZ,eK,er,cC,cB,aH,cH,inL,vv,h1,h2,h3,cp,AV.cells,jF,fJ,fH,gM,gu,iu,ka,jX,jH,wkM]
   refine iP 8 lX ?_ ?_
   ·simp [Fr.get,lX,gText0,gText1,gText2,gText3,AV.cells,fJ,fH,gM,gu,iu,jX,wkM]
   refine xn (s:=7) J rfl ?_ ?_ (by (try simp only [zkv,zkq,oU,zle,zlf]);omega) ?_ ?_
   ·repeat' (first|exact hcl2 _|refine aF ?_|refine cF ?_ ?_|refine aj ?_ ?_)
    all_goals first|exact ve fun _=>fT _|(simp [aC,znu,znv,znf,znh,zng,znr,AV.cells,yal,yak,zle,zlf];try omega)
   ·dsimp only
    refine ⟨by (try simp only [zle,zlf]);omega,by (try simp only [zle,zlf]);omega,?_,?_,?_⟩
    ·repeat (first|exact But.self|refine But.push ?_ _|refine But.set ?_ _ (by first|exact .inl rfl|exact .inr (by (try simp only [zle,zlf]);omega)))
    ·simp only [go_sem,hne,hne2,hgc,cp]
    ·simp only [go_sem]
   ·simp [ltF,znn,znp,lX,gText0,gText1,gText2,gText3,znh,aC,znu,znv,zle,zlf]
    try omega
   ·simp [aM,wk2,wk1,wkM,Fr.get,lX]
 ·rintro ⟨i,Hc⟩ ⟨q3,q1,q2,q4,q5,q6⟩
  dsimp only at q1 q2 q3 q4 q5 q6 ⊢
  have hii:i≠id:=by omega
  have gtx:∀ u x y z,([AV.str x,.str y,.str z]:List AV).getD (cv b u 3) .junk=.str ([x,y,z].getD (cv b u 3) []):=fun u x y z=>by
   have:=eO (b:=b) (v:=u) (n:=3) (by decide)
   rcases (by omega:cv b u 3=0∨cv b u 3=1∨cv b u 3=2) with e|e|e<;>rw [e]<;>rfl
  have hic:id<Hc.nx:=glq q5
  have hci:∀ C w,ay ((Hc.set i (.cells C)).set id (fo b w)) i=some C:=fun C w=>ax (by
   rw [AHeap.get_set_ne _ _ hii,AHeap.get_set_same _ _ q2])
  have hgd:∀ C w,((Hc.set i (.cells C)).set id (fo b w)).get id=some (fo b w):=fun C w=>AHeap.get_set_same _ _ (by rw [zlf];exact hic)
  have hsi:∀ C C' w,((Hc.set i (.cells C)).set id (fo b w)).set i (.cells C')=(Hc.set i (.cells C')).set id (fo b w):=fun C C' w=>by
   rw [← tI hii,Ep,tI hii]
  have hsd:∀ C w w',((Hc.set i (.cells C)).set id (fo b w)).set id (fo b w')=(Hc.set i (.cells C)).set id (fo b w'):=fun C w w'=>zQ
  have hclo:∀ k w,((Hc.set i (.cells (sq b v k))).set id (fo b w)).Closed:=fun k w=>cF (cF q3 (ve fun _=>fT _)) jY
  simp only [bhq,Nat.reduceMod,Nat.reduceDiv,bh,bg,bm,cz,bk,cy,cr,cx,cu,yaq,yar,yao,yap,go_sem]
  refine aq (A:=Nat) (fun k=>[(0,.ptr id 0),(7,.ms i 0 8 4),(8,lX),(80,.int .i64 4),(81,.int .i64 (k:Int))]) (fun k=>(Hc.set i (.cells (sq b v k))).set id (fo b (cp v (8+k)))) (fun k=>k≤4) (fun k=>4 - k) 0 (by omega) ?_ fun k hk=>?_
  ·refine ⟨by simp only [zlf,zkq,zkv];have:=q4.nx;omega,?_,hclo _ _,?_,?_⟩
   ·exact ((lS (by rw [AHeap.get_set_ne _ _ (fun e=>hii e.symm)];exact q5)).trans (lS q6))
   ·simp [ltF,znn,znp,znf,lX,gText0,gText1,gText2,gText3,znh,aC,znu,znv,zlf]
    omega
   ·simp [aM,wk2,wk1,wkM,Fr.get,lX]
  simp only [go_sem]
  refine ae (fun hc=>?_) (fun hc=>?_)
  ·have hk4:k<4:=by simp at hc;omega
   have c3':∀ u,(0≤((cv b u 3:Nat):Int)∧((cv b u 3:Nat):Int)<((3:Nat):Int)):=fun u=>of_eq_true (c3 u)
   have e4:IntKind.i64.wrap ((k:Int)+1)=((k+1:Nat):Int):=by rw [wrap_i64]<;>omega
   rcases (by omega:k=0∨k=1∨k=2∨k=3) with rfl|rfl|rfl|rfl
   ·simp only [go_sem,lX,gText0,gText1,gText2,gText3,bR,hgd,hci,hsi,hsd,bQ hb,cw,bv,cQ,e3,gtx,c3',e4,show IntKind.i64.wrap 1=1 from by decide,iNq,zok,sq,A5,bZ,List.flatMap_cons,List.flatMap_nil,aH,AV.cells,yal,yak]
    refine ⟨by decide,by decide,by decide,1,by decide,by decide,by simp only [zlf,zkq,zkv];have:=q4.nx;omega,lRq _,hclo 1 _,?_,?_⟩
    ·simp [ltF,znn,znp,znf,znh,aC,znu,znv,zlf]
     omega
    ·simp [aM,wk2,wk1,wkM,Fr.get]
   ·simp only [go_sem,lX,gText0,gText1,gText2,gText3,bR,hgd,hci,hsi,hsd,bQ hb,cw,bv,cQ,e3,gtx,c3',e4,show IntKind.i64.wrap 1=1 from by decide,iNq,zok,sq,A5,bZ,List.flatMap_cons,List.flatMap_nil,aH,AV.cells,yal,yak]
    refine ⟨by decide,by decide,by decide,2,by decide,by decide,by simp only [zlf,zkq,zkv];have:=q4.nx;omega,lRq _,hclo 2 _,?_,?_⟩
    ·simp [ltF,znn,znp,znf,znh,aC,znu,znv,zlf]
     omega
    ·simp [aM,wk2,wk1,wkM,Fr.get]
   ·simp only [go_sem,lX,gText0,gText1,gText2,gText3,bR,hgd,hci,hsi,hsd,bQ hb,cw,bv,cQ,e3,gtx,c3',e4,show IntKind.i64.wrap 1=1 from by decide,iNq,zok,sq,A5,bZ,List.flatMap_cons,List.flatMap_nil,aH,AV.cells,yal,yak]
    refine ⟨by decide,by decide,by decide,3,by decide,by decide,by simp only [zlf,zkq,zkv];have:=q4.nx;omega,lRq _,hclo 3 _,?_,?_⟩
    ·simp [ltF,znn,znp,znf,znh,aC,znu,znv,zlf]
     omega
    ·simp [aM,wk2,wk1,wkM,Fr.get]
   ·simp only [go_sem,lX,gText0,gText1,gText2,gText3,bR,hgd,hci,hsi,hsd,bQ hb,cw,bv,cQ,e3,gtx,c3',e4,show IntKind.i64.wrap 1=1 from by decide,iNq,zok,sq,A5,bZ,List.flatMap_cons,List.flatMap_nil,aH,AV.cells,yal,yak]
    refine ⟨by decide,by decide,by decide,4,by decide,by decide,by simp only [zlf,zkq,zkv];have:=q4.nx;omega,lRq _,hclo 4 _,?_,?_⟩
    ·simp [ltF,znn,znp,znf,znh,aC,znu,znv,zlf]
     omega
    ·simp [aM,wk2,wk1,wkM,Fr.get]
  ·have hk4:k=4:=by simp at hc;omega
   subst hk4
   simp only [go_sem]
   have hr:bM 8 4 (sq b v 4)=(bZ b v).map aH:=mG (by decide) (fun t=>(aH t).cells) (fun _=>rfl) (bZ b v)
   refine ⟨?_,?_,hcl2 _,aA fT⟩
   ·simp only [wk,wk2,wk1,hci,yap,hr,true_or,true_and]
    rw [zmv (by rw [zlf];exact q1)]
   ·exact ((q4.set _ (.inr q1)).set _ (.inl rfl)).le (hgd _ _)
def nB:=eG fun b v=>(.slice .any 5 ((cU b v).map aI),v+4)
def z5 (b:List UInt8) (v:Nat) (r1 r2:Bool):List AV:=((cU b v).map fun a=>(⟨a.id,a.name,a.params,a.body,if a.id=3∧r1=true then [112,111,114,116,32,33,61,32,48] else if a.id=5∧r2=true then [120,32,60,32,121,32,124,124,32,120,32,61,61,32,49,53] else []⟩:SAction)).flatMap fun a=>(aI a).cells
theorem BU {b:List UInt8} {v:Nat}:z5 b v (decide (cv b (v+2) 2=1)) (decide (cv b (v+3) 2=1))=(cU b v).flatMap fun a=>(aI a).cells:=by
 by_cases h1:cv b (v+2) 2=1<;>by_cases h2:cv b (v+3) 2=1<;>simp [z5,cU,aI,AV.cells,h1,h2]
theorem wh:EntOk Tryz.prog 26 (Ent.effect nB):=by
 unfold nB
 refine EntOk.effect fun args H K h=>?_
 unfold eG at h
 split at h
 rotate_left
 ·exact h.elim
 rename_i id
 obtain ⟨b,v,hg,hb,hv,hK⟩:=lQ h
 refine ⟨_,_,hK,?_⟩
 clear hK
 dsimp only
 generalize hres:AV.slice .any 5 ((cU b v).map aI)=res
 refine ACalls.fW ag (tCq lm (tCq ll tNq)) Tryz.func26 [.tmp 2] (nrq _) (T:=af [(2,[[],[],[],[],[],[],[],[],[],[],[],[],[],[],[],[],[],[],[],[],[],[],[],[],[],[],[],[],[],[],[],[],[],[29],[29,33],[],[],[],[29,33],[],[6,12,22,29,33]]),(802,[[100002],[100005],[100008],[100011],[100016],[100020],[100026],[100044]]),(1202,[[40]]),(3,[[1]])]) (h:=fun hcl hlt=>?_)
 clear hlt
 have hid:=glq hg
 have hne:=pV hid
 have hne2:=pV (show id<H.nx+1+1+1+1+1+1+1+1+1+1+1+1+1+1+1+1 by omega)
 have hgc:=ml (b:=b) hid
 have hcl2:∀ w,(H.set id (fo b w)).Closed:=fun w=>cF hcl jY
 have e2:(2:Int).toNat=2:=rfl
 have e256:(256:Int).toNat=256:=rfl
 have a22:∀ u,IntKind.i64.wrap (2+((cv b u 2:Nat):Int))=2+((cv b u 2:Nat):Int):=fun u=>by
  have:=eO (b:=b) (v:=u) (n:=2) (by decide)
  rw [wrap_i64 (by omega) (by omega)]
 have u256:∀ u,IntKind.u64.wrap ((cv b u 256:Nat):Int)=((cv b u 256:Nat):Int):=fun u=>by
  have:=eO (b:=b) (v:=u) (n:=256) (by decide)
  rw [iA (by omega) (by omega)]
 simp only [go_sem,bR,bF,hg,hgc,bQ hb,cw,bv,cQ,hne,hne2,e2,e256,a22,u256]
 (repeat with_reducible refine Yq ?_)
 simp only [dt,du,bhq,Nat.reduceMod,Nat.reduceDiv,bh,bg,bm,cz,bk,cy,cr,cx,cu,yaq,yar,yao,yap,go_sem,bR,bF,hg,hgc,bQ hb,cw,bv,cQ,hne,hne2,e2,e256,a22,u256]
 refine sO (s:=4) (z5 b v false false) rfl (by simp only [go_sem];rfl) ?_ ?_
 ·simp [z5,cU,aI,bE,bY,vc,cp,AV.cells,jF,fJ,fH,gM,gu,iu,ka,jX,jH,wkM]
  have:=eO (b:=b) (v:=v+1) (n:=256) (by decide)
  omega
 simp only [dt,du,bhq,Nat.reduceMod,Nat.reduceDiv,bh,bg,bm,cz,bk,cy,cr,cx,cu,yaq,yar,yao,yap,go_sem,bR,bF,hg,hgc,bQ hb,cw,bv,cQ,hne,hne2,e2,e256,a22,u256]
 refine ae (fun h1=>?_) (fun h1=>?_)
 all_goals
  simp only [dt,du,bhq,Nat.reduceMod,Nat.reduceDiv,bh,bg,bm,cz,bk,cy,cr,cx,cu,yaq,yar,yao,yap,go_sem,bR,bF,hg,hgc,bQ hb,cw,bv,cQ,hne,hne2,e2,e256,a22,u256,z5,cU,List.flatMap_cons,List.flatMap_nil,aI,AV.cells,yal,yak]
  (repeat with_reducible refine Yq ?_)
  refine ae (fun h2=>?_) (fun h2=>?_)
 all_goals
  try simp only [dt,du,bhq,Nat.reduceMod,Nat.reduceDiv,bh,bg,bm,cz,bk,cy,cr,cx,cu,yaq,yar,yao,yap,go_sem,bR,bF,hg,hgc,bQ hb,cw,bv,cQ,hne,hne2,e2,e256,a22,u256,z5,cU,List.flatMap_cons,List.flatMap_nil,aI,AV.cells,yal,yak]
  (repeat with_reducible refine Yq ?_)
  have hA:=BU (b:=b) (v:=v)
  rw [show decide (cv b (v+2) 2=1)=_ from h1,show decide (cv b (v+3) 2=1)=_ from h2] at hA
  have hr:=mG (sz:=5) (by decide) (fun t=>(aI t).cells) (fun _=>rfl) (cU b v)
  rw [← hA] at hr
  subst hres
  refine ⟨?_,?_,hcl2 _,aA sS⟩
  ·simp only [wk,wk2,wk1,go_sem,yap,true_or,true_and]
   refine ⟨?_,?_⟩
   ·exact hr.symm
   ·rw [zmv (by (try simp only [zlf]);omega)]
  ·refine But.le (id:=id) ?_ ?_
   ·repeat (first|exact But.self|refine But.push ?_ _|refine But.set ?_ _ (by first|exact .inl rfl|exact .inr (by (try simp only [zle,zlf]);omega)))
   ·simp only [go_sem,hne,hne2,hgc,cp]
end Go.AL
