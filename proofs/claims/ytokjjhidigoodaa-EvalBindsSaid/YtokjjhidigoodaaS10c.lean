/- Contracts and plain laws, a part of the proof; no condition of its own. -/
import Derived.Test.YtokjjhidigoodaaS10z
import Derived.Test.YtokjjhidigoodaaLVal
import Derived.Test.YtokjjhidigoodaaLSch2
set_option maxHeartbeats 32000000
open List renaming length_cons → yaz, length_nil → yba, take_of_length_le → ybc, drop_append → ybd, take_append → ybe, drop_eq_nil_of_le → ybf, cons_append → yal, nil_append → yak, take_succ_cons → yaq, take_zero → yar, drop_succ_cons → yao, drop_zero → yap, map_cons → yae
open Go Go.AL Go.Proofs
namespace Go.AL
set_option linter.all false
set_option maxRecDepth 10000
theorem Bs:ti Try.prog 3=some ⟨.int .i64,1,8,.int .i64 0⟩:=by kernel_rfl
theorem xX:ti Try.prog 82=some ⟨.struct [(0,3,false),(1,9,false),(2,3,false)],3,32,.agg [.int .i64 0,.str [],.int .i64 0]⟩:=by kernel_rfl
theorem ul:ti Try.prog 84=some ⟨.struct [(0,3,false),(1,9,false),(2,36,false)],3,48,.agg [.int .i64 0,.str [],.slice .nil 1 []]⟩:=by kernel_rfl
theorem At:ti Try.prog 139=some ⟨.struct [(0,95,false),(2,95,false),(4,3,false)],5,40,.agg [.int .u64 0,.int .u64 0,.int .u64 0,.int .u64 0,.int .i64 0]⟩:=by kernel_rfl
theorem x8:ti Try.prog 137=some ⟨.struct [(0,3,false),(1,3,false),(2,3,false),(3,135,false),(4,3,false)],5,56,.agg [.int .i64 0,.int .i64 0,.int .i64 0,.slice .nil 1 [],.int .i64 0]⟩:=by kernel_rfl
theorem yV:ti Try.prog 143=some ⟨.struct [(0,3,false),(1,3,false),(2,141,false)],6,48,.agg [.int .i64 0,.int .i64 0,.int .i64 0,.int .i64 0,.int .u64 0,.int .u64 0]⟩:=by kernel_rfl
theorem t9:ti Try.prog 141=some ⟨.struct [(0,3,false),(1,3,false),(2,95,false)],4,32,.agg [.int .i64 0,.int .i64 0,.int .u64 0,.int .u64 0]⟩:=by kernel_rfl
theorem ya:ti Try.prog 109=some ⟨.struct [(0,9,false),(1,3,false)],2,24,.agg [.str [],.int .i64 0]⟩:=by kernel_rfl
theorem vB:ti Try.prog 45=some ⟨.struct [(0,3,false),(1,9,false),(2,42,false),(3,43,false),(4,9,false)],5,88,.agg [.int .i64 0,.str [],.slice .nil 1 [],.slice .nil 1 [],.str []]⟩:=by kernel_rfl
theorem BP:ti Try.prog 79=some ⟨.struct [(0,9,false),(1,3,false),(2,3,false)],3,32,.agg [.str [],.int .i64 0,.int .i64 0]⟩:=by kernel_rfl
theorem yd:ti Try.prog 38=some ⟨.struct [(0,3,false),(1,9,false),(2,35,false),(3,36,false),(4,3,false),(5,23,false),(6,3,false),(7,9,false)],8,128,.agg [.int .i64 0,.str [],.slice .nil 1 [],.slice .nil 1 [],.int .i64 0,.slice .nil 1 [],.int .i64 0,.str []]⟩:=by kernel_rfl
theorem x9:ti Try.prog 90=some ⟨.struct [(0,3,false),(1,3,false)],2,16,.agg [.int .i64 0,.int .i64 0]⟩:=by kernel_rfl
theorem xa:ti Try.prog 150=some ⟨.struct [(0,3,false),(1,4,false),(2,4,false),(3,148,false)],4,40,.agg [.int .i64 0,.bool false,.bool false,.slice .nil 1 []]⟩:=by kernel_rfl
theorem AE:ti Try.prog 147=some ⟨.struct [(0,3,false),(1,9,false),(2,145,false),(3,36,false),(4,3,false),(5,4,false)],6,88,.agg [.int .i64 0,.str [],.slice .nil 1 [],.slice .nil 1 [],.int .i64 0,.bool false]⟩:=by kernel_rfl
theorem Bh:ti Try.prog 92=some ⟨.struct [(0,3,false),(1,3,false),(2,3,false),(3,3,false),(4,3,false),(5,3,false)],6,48,.agg [.int .i64 0,.int .i64 0,.int .i64 0,.int .i64 0,.int .i64 0,.int .i64 0]⟩:=by kernel_rfl
theorem uI:ti Try.prog 55=some ⟨.struct [(0,46,false),(1,47,false),(2,48,false),(3,49,false),(4,50,false),(5,51,false),(6,52,false),(7,53,false),(8,3,false),(9,3,false)],10,208,.agg [.slice .nil 1 [],.slice .nil 1 [],.slice .nil 1 [],.slice .nil 1 [],.slice .nil 1 [],.slice .nil 1 [],.slice .nil 1 [],.slice .nil 1 [],.int .i64 0,.int .i64 0]⟩:=by kernel_rfl
theorem yF:ti Try.prog 100=some ⟨.struct [(0,4,false),(1,95,false),(3,95,false),(5,3,false),(6,95,false)],8,64,.agg [.bool false,.int .u64 0,.int .u64 0,.int .u64 0,.int .u64 0,.int .i64 0,.int .u64 0,.int .u64 0]⟩:=by kernel_rfl
theorem xV:ti Try.prog 41=some ⟨.struct [(0,3,false),(1,39,false),(2,3,false),(3,3,false),(4,23,false)],5,72,.agg [.int .i64 0,.slice .nil 1 [],.int .i64 0,.int .i64 0,.slice .nil 1 []]⟩:=by kernel_rfl
theorem yw:ti Try.prog 46=some ⟨.slice 82,1,24,.slice .nil 1 []⟩:=by kernel_rfl
theorem uJ:ti Try.prog 47=some ⟨.slice 84,1,24,.slice .nil 1 []⟩:=by kernel_rfl
theorem AR:ti Try.prog 135=some ⟨.slice 139,1,24,.slice .nil 1 []⟩:=by kernel_rfl
theorem xl:ti Try.prog 48=some ⟨.slice 137,1,24,.slice .nil 1 []⟩:=by kernel_rfl
theorem Ab:ti Try.prog 43=some ⟨.slice 143,1,24,.slice .nil 1 []⟩:=by kernel_rfl
theorem xt:ti Try.prog 42=some ⟨.slice 109,1,24,.slice .nil 1 []⟩:=by kernel_rfl
theorem uL:ti Try.prog 49=some ⟨.slice 45,1,24,.slice .nil 1 []⟩:=by kernel_rfl
theorem Bl:ti Try.prog 35=some ⟨.slice 79,1,24,.slice .nil 1 []⟩:=by kernel_rfl
theorem xx:ti Try.prog 50=some ⟨.slice 38,1,24,.slice .nil 1 []⟩:=by kernel_rfl
theorem xJ:ti Try.prog 51=some ⟨.slice 90,1,24,.slice .nil 1 []⟩:=by kernel_rfl
theorem wO:ti Try.prog 145=some ⟨.slice 150,1,24,.slice .nil 1 []⟩:=by kernel_rfl
theorem zb:ti Try.prog 52=some ⟨.slice 147,1,24,.slice .nil 1 []⟩:=by kernel_rfl
theorem B3:ti Try.prog 53=some ⟨.slice 92,1,24,.slice .nil 1 []⟩:=by kernel_rfl
theorem wN:ti Try.prog 39=some ⟨.slice 100,1,24,.slice .nil 1 []⟩:=by kernel_rfl
theorem Ch:ti Try.prog 23=some ⟨.slice 95,1,24,.slice .nil 1 []⟩:=by kernel_rfl
theorem BD:ti Try.prog 36=some ⟨.slice 3,1,24,.slice .nil 1 []⟩:=by kernel_rfl
theorem yY:ti Try.prog 148=some ⟨.slice 4,1,24,.slice .nil 1 []⟩:=by kernel_rfl
attribute [go_sem] Bs xX ul At x8 yV t9 ya vB BP yd x9 xa AE Bh uI yF xV yw uJ AR xl Ab xt uL Bl xx xJ wO zb B3 wN Ch BD yY
/-- the next choice of two -/
def bb:List AV→AHeap→(AEnd→AHeap→Prop)→Prop
 |[.ptr id 0],H,K=>onC (H.get id) fun b v=>K (.ret (.bool (decide (cv b v 2=1)))) (H.set id (dl b (v+1)))
 |_,_,_=>False
theorem iB:EntOk Try.prog 27 (Ent.effect bb):=by
 refine EntOk.effect fun args H K h=>?_
 unfold bb at h
 split at h
 rotate_left
 ·exact h.elim
 rename_i id
 obtain ⟨b,v,hg,hb,hv,hK⟩:=jd h
 refine ⟨_,_,hK,?_⟩
 clear hK
 refine ACalls.fW aD (TblOk.cons iG TblOk.nil) Try.func27 [.tmp 2] (Nat.le_refl _) (T:=az []) (h:=fun hcl hlt=>?_)
 clear hlt
 have hid:=AHeap.get_lt hg
 have hcl2:(H.set id (dl b (v+1))).Closed:=ah hcl hO
 have e2:(2:Int).toNat=2:=rfl
 simp only [go_sem,bj,hg,bk hb,cp,e2,Nat.add_zero,Nat.min_eq_left hv]
 have e:((((cv b v 2:Nat):Int))==1)=decide (cv b v 2=1):=by rw [Bool.eq_iff_iff];simp;omega
 refine ⟨⟨by decide,by decide⟩,?_⟩
 rw [e]
 simp (disch:=first|assumption|omega|(simp;done)|(simp;omega)|(simp only [bt,and_true];first|done|omega|(simp;done))) [↓zmk,beq,ybc,ybd,ybe,ag,wk,wk2,wk1,wkM,wkL,am,ybf,hcl2]
theorem ni {id n:Nat} (h:id<n):((id=n)=False)∧((id=n+1)=False)∧((id=n+1+1)=False)∧((id=n+1+1+1)=False)∧((id=n+1+1+1+1)=False)∧((id=n+1+1+1+1+1)=False)∧((id=n+1+1+1+1+1+1)=False)∧((id=n+1+1+1+1+1+1+1)=False)∧((id=n+1+1+1+1+1+1+1+1)=False)∧((id=n+1+1+1+1+1+1+1+1+1)=False)∧((id=n+1+1+1+1+1+1+1+1+1+1)=False)∧((id=n+1+1+1+1+1+1+1+1+1+1+1)=False)∧((id=n+1+1+1+1+1+1+1+1+1+1+1+1)=False)∧((id=n+1+1+1+1+1+1+1+1+1+1+1+1+1)=False)∧((id=n+1+1+1+1+1+1+1+1+1+1+1+1+1+1)=False)∧((id=n+1+1+1+1+1+1+1+1+1+1+1+1+1+1+1)=False) :=
 ⟨eq_false (by omega),eq_false (by omega),eq_false (by omega),eq_false (by omega),eq_false (by omega),eq_false (by omega),eq_false (by omega),eq_false (by omega),eq_false (by omega),eq_false (by omega),eq_false (by omega),eq_false (by omega),eq_false (by omega),eq_false (by omega),eq_false (by omega),eq_false (by omega)⟩
theorem jx {H:AHeap} {id:Nat} (h:id<H.nx) (b:List UInt8) (v:Nat):(H.set id (dl b v)).get id=some (dl b v):=AHeap.get_set_same _ _ h
theorem fB {b:List UInt8} {v:Nat}:([AV.int .i64 0,.int .i64 0,.int .i64 65535,.int .i64 3].getD (cv b v 4) .junk)=.int .i64 (jj (cv b v 4)):=by
 have h:=jg (b:=b) (v:=v) (n:=4) (by decide)
 unfold jj
 generalize cv b v 4=c at *
 match c,h with
 |0,_=>rfl
 |1,_=>rfl
 |2,_=>rfl
 |3,_=>rfl
theorem aY {α:Type} {n sz:Nat} {f:α→AV} {l:List α} (h:∀ x,AV.lt n (f x)):AV.lt n (.slice .any sz (l.map f)):=wF fun x hx=>by
 obtain ⟨y,_,rfl⟩:=List.mem_map.1 hx
 exact h y
theorem fF {n v:Nat} {l:List AV}:ltL n (vc v++l)=ltL n l:=by simp [vc,znq,znb]
theorem eu {n v:Nat}:ltL n (vc v)=True:=by simp [vc,znq,znr,znb]
theorem oT {n:Nat} {l:List Int}:AV.lt n (.slice .any 1 (inL l)):=aY fun x=>by simp only [znb]
theorem Az {n:Nat} {l:List Bool}:AV.lt n (.slice .any 1 (boL l)):=aY fun x=>by simp only [znc]
theorem Dh {n:Nat} {l:List Nat}:AV.lt n (.slice .any 2 (l.map vv)):=aY fun x=>by simp only [vv,znn,znq,znr,znb,and_true]
theorem j1 {n:Nat} (x:SField):AV.lt n (bY x):=by
 simp only [bY,znn,znq,znr,znb,znd,znc,fF,eu,List.append_assoc,yal,yak,true_and,and_true]
theorem iD {n:Nat} (x:SHeader):AV.lt n (eg x):=by
 simp only [eg,znn,znq,znr,znb,znd,znc,fF,eu,List.append_assoc,yal,yak,true_and,and_true]
 exact oT
theorem Co {n:Nat} (x:SCase):AV.lt n (lj x):=by
 simp only [lj,znn,znq,znr,znb,znd,znc,fF,eu,List.append_assoc,yal,yak,true_and,and_true]
theorem dj {n:Nat} (x:SState):AV.lt n (cy x):=by
 simp only [cy,znn,znq,znr,znb,znd,znc,fF,eu,List.append_assoc,yal,yak,true_and,and_true]
 exact aY Co
theorem BU {n:Nat} (x:SPrim):AV.lt n (rB x):=by
 simp only [rB,znn,znq,znr,znb,znd,znc,fF,eu,List.append_assoc,yal,yak,true_and,and_true]
theorem Ap {n:Nat} (x:SParam):AV.lt n (bq x):=by
 simp only [bq,znn,znq,znr,znb,znd,znc,fF,eu,List.append_assoc,yal,yak,true_and,and_true]
theorem gD {n:Nat} (x:SAction):AV.lt n (bW x):=by
 simp only [bW,znn,znq,znr,znb,znd,znc,fF,eu,List.append_assoc,yal,yak,true_and,and_true]
 exact ⟨aY Ap,aY BU⟩
theorem Dw {n:Nat} (x:SKey):AV.lt n (cg x):=by
 simp only [cg,znn,znq,znr,znb,znd,znc,fF,eu,List.append_assoc,yal,yak,true_and,and_true]
theorem cC {n:Nat} (x:STable):AV.lt n (bI x):=by
 simp only [bI,znn,znq,znr,znb,znd,znc,fF,eu,List.append_assoc,yal,yak,true_and,and_true]
 exact ⟨aY Dw,oT,Dh⟩
theorem zX {n:Nat} (x:SStage):AV.lt n (nG x):=by
 simp only [nG,znn,znq,znr,znb,znd,znc,fF,eu,List.append_assoc,yal,yak,true_and,and_true]
theorem lr {n:Nat} (x:SGrant):AV.lt n (cx x):=by
 simp only [cx,znn,znq,znr,znb,znd,znc,fF,eu,List.append_assoc,yal,yak,true_and,and_true]
 exact Az
theorem kb {n:Nat} (x:SRole):AV.lt n (eR x):=by
 simp only [eR,znn,znq,znr,znb,znd,znc,fF,eu,List.append_assoc,yal,yak,true_and,and_true]
 exact ⟨aY lr,oT⟩
theorem DN {n:Nat} (x:SRef):AV.lt n (wd x):=by
 simp only [wd,znn,znq,znr,znb,znd,znc,fF,eu,List.append_assoc,yal,yak,true_and,and_true]
theorem zP {n:Nat} (x:Sch):AV.lt n (mW x):=by
 simp only [mW,bO,znn,znq,znr,znb,true_and,and_true]
 exact ⟨aY j1,aY iD,aY dj,aY gD,aY cC,aY zX,aY kb,aY DN⟩
theorem CF {b:List UInt8} {u n:Nat} (h:0<n):(0≤((cv b u n:Nat):Int)∧((cv b u n:Nat):Int)<(n:Int))=True:=eq_true ⟨by omega,by have:=jg (b:=b) (v:=u) h;omega⟩
/-- a function that takes from the choices -/
def eG (g:List UInt8→Nat→AV × Nat):List AV→AHeap→(AEnd→AHeap→Prop)→Prop
 |[.ptr id 0],H,K=>onC (H.get id) fun b v=>K (.ret (g b v).1) (H.set id (dl b (g b v).2))
 |_,_,_=>False
def mP:=eG fun b v=>(.slice .any 5 ((bu b v).1.map cy),(bu b v).2)
theorem u6:EntOk Try.prog 23 (Ent.effect mP):=by
 unfold mP
 refine EntOk.effect fun args H K h=>?_
 unfold eG at h
 split at h
 rotate_left
 ·exact h.elim
 rename_i id
 obtain ⟨b,v,hg,hb,hv,hK⟩:=jd h
 refine ⟨_,_,hK,?_⟩
 clear hK
 refine ACalls.fW aD (TblOk.cons iG (TblOk.cons iB TblOk.nil)) Try.func23 [.tmp 2] (Nat.le_refl _) (T:=az [(5,[[],[],[],[],[],[3],[],[],[],[],[3],[],[3,10],[],[3,10,12],[1,3,10,12],[],[1,3,10,12]]),(10,[[16]])]) (h:=fun hcl hlt=>?_)
 clear hlt
 have hid:=AHeap.get_lt hg
 have hne:=ni hid
 have hgc:=jx (b:=b) hid
 have hcl2:∀ w,(H.set id (dl b w)).Closed:=fun w=>ah hcl hO
 have c4:∀ u,(0≤((cv b u 4:Nat):Int)∧((cv b u 4:Nat):Int)<((4:Nat):Int))=True:=fun u=>CF (by decide)
 simp only [go_sem,bj,bb,hg,hgc,bk hb,bH,aU,bU,hne,fB,c4,Int.toNat_natCast]
 have w8:∀ u,IntKind.u64.wrap (IntKind.i64.wrap (8*((cv b u 2:Nat):Int)))=((8*cv b u 2:Nat):Int):=fun u=>by
  have:=jg (b:=b) (v:=u) (n:=2) (by decide)
  rw [wrap_i64 (by omega) (by omega),gd (by omega) (by omega)];omega
 have w1:∀ u,IntKind.i64.wrap (1+((cv b u 3:Nat):Int))=1+((cv b u 3:Nat):Int):=fun u=>by
  have:=jg (b:=b) (v:=u) (n:=3) (by decide)
  rw [wrap_i64 (by omega) (by omega)]
 have hvs:∀ u,vc (8*cv b u 2)=[.int .u64 0,.int .u64 ((8*cv b u 2:Nat):Int)]:=fun u=>jC (by
  have:=jg (b:=b) (v:=u) (n:=2) (by decide)
  omega)
 refine ⟨by decide,ax (fun h1=>?_) (fun h1=>?_)⟩
 ·have h1':cv b (v+1) 2=1:=of_decide_eq_true h1
  simp only [cb,bM,bhq,Nat.reduceMod,Nat.reduceDiv,aM,aL,aO,bE,aN,bD,bz,bB,bA,yaq,yar,yao,yap,go_sem,bj,bb,hg,hgc,bk hb,bH,aU,bU,hne,fB,c4,w8,w1,Int.toNat_natCast]
  refine ⟨by decide,by decide,⟨by simp [zim,zgm,zgn,zgo],by decide,by decide,ax (fun h2=>?_) (fun h2=>?_)⟩⟩
  ·have h2':cv b (v+5) 3=1:=by simp [cp] at h2;omega
   simp only [cb,bM,bhq,Nat.reduceMod,Nat.reduceDiv,aM,aL,aO,bE,aN,bD,bz,bB,bA,yaq,yar,yao,yap,go_sem,bj,bb,hg,hgc,bk hb,bH,aU,bU,hne,fB,c4,w8,w1,Int.toNat_natCast]
   refine ⟨by decide,?_⟩
   refine fI 2 (.slice .any 5 ((bu b v).1.map cy)) ?_ ?_
   ·simp [Fr.get,bu,h1',h2',cy,lj,jC,cp,hvs,hY,bG,bF,ca,dK,bZ,gt,gz,fV,wkM,zim]
   ·have e:(bu b v).2=cp v 7:=by unfold bu;simp only [h1',h2',if_true,if_false];rfl
    rw [e]
    simp only [go_sem,bhq,Nat.reduceMod,Nat.reduceDiv,aM,aL,aO,bE,aN,bD,bz,bB,bA,yaq,yar,yao,yap]
    simp (disch:=first|assumption|omega|(simp;done)|(simp;omega)|(simp only [bt,and_true];first|done|omega|(simp;done))) [↓zmk,beq,ybc,ybd,ybe,ag,wk,wk2,wk1,wkM,wkL,am,ybf,hcl2]
    first|exact aY dj|exact ⟨by repeat first|exact .refl _|refine .push ?_ _,aY dj⟩
  ·have h2':¬ cv b (v+5) 3=1:=by simp [cp] at h2;omega
   simp only [cb,bM,bhq,Nat.reduceMod,Nat.reduceDiv,aM,aL,aO,bE,aN,bD,bz,bB,bA,yaq,yar,yao,yap,go_sem,bj,bb,hg,hgc,bk hb,bH,aU,bU,hne,fB,c4,w8,w1,Int.toNat_natCast]
   refine fI 2 (.slice .any 5 ((bu b v).1.map cy)) ?_ ?_
   ·simp [Fr.get,bu,h1',h2',cy,lj,jC,cp,hvs,hY,bG,bF,ca,dK,bZ,gt,gz,fV,wkM,zim]
   ·have e:(bu b v).2=cp v 6:=by unfold bu;simp only [h1',h2',if_true,if_false];rfl
    rw [e]
    simp only [go_sem,bhq,Nat.reduceMod,Nat.reduceDiv,aM,aL,aO,bE,aN,bD,bz,bB,bA,yaq,yar,yao,yap]
    simp (disch:=first|assumption|omega|(simp;done)|(simp;omega)|(simp only [bt,and_true];first|done|omega|(simp;done))) [↓zmk,beq,ybc,ybd,ybe,ag,wk,wk2,wk1,wkM,wkL,am,ybf,hcl2]
    first|exact aY dj|exact ⟨by repeat first|exact .refl _|refine .push ?_ _,aY dj⟩
 ·have h1':¬ cv b (v+1) 2=1:=of_decide_eq_false h1
  simp only [cb,bM,bhq,Nat.reduceMod,Nat.reduceDiv,aM,aL,aO,bE,aN,bD,bz,bB,bA,yaq,yar,yao,yap,go_sem,bj,bb,hg,hgc,bk hb,bH,aU,bU,hne,fB,c4,w8,w1,Int.toNat_natCast]
  refine ⟨by decide,by decide,ax (fun h2=>?_) (fun h2=>?_)⟩
  ·have h2':cv b (v+3) 3=1:=by simp [cp] at h2;omega
   simp only [cb,bM,bhq,Nat.reduceMod,Nat.reduceDiv,aM,aL,aO,bE,aN,bD,bz,bB,bA,yaq,yar,yao,yap,go_sem,bj,bb,hg,hgc,bk hb,bH,aU,bU,hne,fB,c4,w8,w1,Int.toNat_natCast]
   refine ⟨by decide,?_⟩
   refine fI 2 (.slice .any 5 ((bu b v).1.map cy)) ?_ ?_
   ·simp [Fr.get,bu,h1',h2',cy,lj,jC,cp,hvs,hY,bG,bF,ca,dK,bZ,gt,gz,fV,wkM,zim]
   ·have e:(bu b v).2=cp v 5:=by unfold bu;simp only [h1',h2',if_true,if_false];rfl
    rw [e]
    simp only [go_sem,bhq,Nat.reduceMod,Nat.reduceDiv,aM,aL,aO,bE,aN,bD,bz,bB,bA,yaq,yar,yao,yap]
    simp (disch:=first|assumption|omega|(simp;done)|(simp;omega)|(simp only [bt,and_true];first|done|omega|(simp;done))) [↓zmk,beq,ybc,ybd,ybe,ag,wk,wk2,wk1,wkM,wkL,am,ybf,hcl2]
    first|exact aY dj|exact ⟨by repeat first|exact .refl _|refine .push ?_ _,aY dj⟩
  ·have h2':¬ cv b (v+3) 3=1:=by simp [cp] at h2;omega
   simp only [cb,bM,bhq,Nat.reduceMod,Nat.reduceDiv,aM,aL,aO,bE,aN,bD,bz,bB,bA,yaq,yar,yao,yap,go_sem,bj,bb,hg,hgc,bk hb,bH,aU,bU,hne,fB,c4,w8,w1,Int.toNat_natCast]
   refine fI 2 (.slice .any 5 ((bu b v).1.map cy)) ?_ ?_
   ·simp [Fr.get,bu,h1',h2',cy,lj,jC,cp,hvs,hY,bG,bF,ca,dK,bZ,gt,gz,fV,wkM,zim]
   ·have e:(bu b v).2=cp v 4:=by unfold bu;simp only [h1',h2',if_true,if_false];rfl
    rw [e]
    simp only [go_sem,bhq,Nat.reduceMod,Nat.reduceDiv,aM,aL,aO,bE,aN,bD,bz,bB,bA,yaq,yar,yao,yap]
    simp (disch:=first|assumption|omega|(simp;done)|(simp;omega)|(simp only [bt,and_true];first|done|omega|(simp;done))) [↓zmk,beq,ybc,ybd,ybe,ag,wk,wk2,wk1,wkM,wkL,am,ybf,hcl2]
    first|exact aY dj|exact ⟨by repeat first|exact .refl _|refine .push ?_ _,aY dj⟩
end Go.AL
open Go Go.AL Go.Proofs
namespace Go.AL
set_option linter.all false
set_option maxRecDepth 10000
theorem vH:ti Try.prog 33=some ⟨.slice 9,1,24,.slice .nil 1 []⟩:=by kernel_rfl
theorem tx:ti Try.prog 144=some ⟨.slice 33,1,24,.slice .nil 1 []⟩:=by kernel_rfl
attribute [go_sem] vH tx
/-- a proof that serves several ways into the same place -/
def JnT {α:Type} (F:α→Fr) (G:α→AHeap) (I:α→Prop) (K:Fr→AHeap→Prop):Prop:=∀ x,I x→K (F x) (G x)
theorem gU {α:Type} (F:α→Fr) (G:α→AHeap) (I:α→Prop) {K:Fr→AHeap→Prop} {C:Prop} (h:JnT F G I K→C) (hJ:JnT F G I K):C:=h hJ
theorem cX {α:Type} {F:α→Fr} {G:α→AHeap} {I:α→Prop} {n0:Nat} {K:Fr→AHeap→Prop} {fr:Fr} {H:AHeap} (J:JnT F G I K) (x:α) (hx:I x) (he:enterW n0 fr H (F x) (G x)):ic n0 K fr H:=me _ _ he (J x hx)
theorem uB {F:Nat × AHeap→Fr} {I:Nat × AHeap→Prop} {n0 s id off sz len:Nat} {K:Fr→AHeap→Prop} {fr:Fr} {H:AHeap} (J:JnT F (fun x=>x.2) (fun x=>x.2.Closed∧I x) K) (hs:Fr.get fr s=.ms id off sz len) (hc:H.Closed) (hx:I (id,H)) (hn:n0≤H.nx) (hl:ltF H.nx (F (id,H))) (hw:aI H H (F (id,H)) fr):ic n0 K fr H:=me _ _ ⟨hn,AHeap.Le.refl _,hc,hl,hw⟩ (J _ ⟨hc,hx⟩)
theorem qJ {n0 s id off sz len:Nat} {K:Fr→AHeap→Prop} {fr:Fr} {H:AHeap} {cs:List AV} (cs':List AV) (hs:Fr.get fr s=.ms id off sz len) (hc:aA H id=some cs) (h:jo cs cs') (hk:K fr (H.set id (.cells cs'))):ic n0 K fr H:=dd id cs' hc h hk
/-- nothing but one object was changed -/
structure But (id:Nat) (H Hc:AHeap):Prop where
 nx:H.nx≤Hc.nx
 get:∀ j x,j≠id→H.get j=some x→Hc.get j=some x
theorem But.push {id:Nat} {H Hc:AHeap} (h:But id H Hc) (o:AObj):But id H (Hc.push o):=⟨by rw [zla];exact Nat.le_succ_of_le h.nx,fun j x hj hx=>by
 have:=h.get j x hj hx
 rw [AHeap.get_push_lt _ _ (AHeap.get_lt this)];exact this⟩
theorem But.set {id i:Nat} {H Hc:AHeap} (h:But id H Hc) (o:AObj) (hi:i=id∨H.nx≤i):But id H (Hc.set i o):=⟨by rw [zlb];exact h.nx,fun j x hj hx=>by
 have hlt:=AHeap.get_lt hx
 rw [AHeap.get_set_ne _ _ (by rcases hi with rfl|hi<;>omega)]
 exact h.get j x hj hx⟩
theorem But.del {id i:Nat} {H Hc:AHeap} (h:But id H Hc) (hi:H.nx≤i):But id H (Hc.del i):=⟨by rw [fZ];exact h.nx,fun j x hj hx=>by
 have hlt:=AHeap.get_lt hx
 rw [iR,if_neg (by omega)]
 exact h.get j x hj hx⟩
theorem But.self {id:Nat} {H:AHeap}:But id H H:=⟨Nat.le_refl _,fun _ _ _ h=>h⟩
theorem But.le {id:Nat} {H Hc:AHeap} {o:AObj} (h:But id H Hc) (hg:Hc.get id=some o):(H.set id o).Le Hc:=Cv h.get hg h.nx
theorem qd {H:AHeap} {i j:Nat} {o o':AObj} (h:i≠j):(H.set i o).set j o'=(H.set j o').set i o:=by
 simp only [AHeap.set,AHeap.mk.injEq,true_and]
 funext k
 by_cases h1:k=i
 ·subst h1;simp [h]
 ·simp [h1]
theorem A5 {H:AHeap} {i:Nat} {o o':AObj}:(H.set i o).set i o'=H.set i o':=by
 simp only [AHeap.set,AHeap.mk.injEq,true_and]
 funext k
 by_cases h1:k=i<;>simp [h1]
/-- the tables; the first k have their restrictions -/
def yJ (b:List UInt8) (v k:Nat):List STable:=(ce b v).take k++((ce b v).drop k).map fun t=>{ t with restr:=[] }
def pK (b:List UInt8) (v k:Nat):List AV:=(yJ b v k).flatMap fun t=>(bI t).cells
theorem tM {α:Type} {n:Nat} {f:α→AV} {l:List α} (h:∀ x,AV.lt n (f x)):ltL n (l.flatMap fun x=>(f x).cells):=ltL_iff.2 fun j hj=>by
 obtain ⟨x,_,hx⟩:=List.mem_flatMap.1 (List.getElem_mem hj)
 obtain ⟨k,hk,e⟩:=List.mem_iff_getElem.1 hx
 rw [← e];exact AV.lt_cells (h x) k hk
theorem jY {α:Type} {sz:Nat} (h1:sz≠1) (f:α→List AV) (hf:∀ x,(f x).length=sz):∀ l:List α,bv sz l.length (l.flatMap f)=l.map fun x=>.agg (f x)
 |[]=>rfl
 |x::l=>by
  rw [yaz,List.flatMap_cons,bv,if_neg h1,yae,show (f x++l.flatMap f).drop sz=l.flatMap f by rw [← hf x,List.drop_left],jY h1 f hf l]
  congr 2
  apply List.ext_getElem
  ·simp [hf]
  ·intro j a1 a2
   simp only [List.getElem_map,List.getElem_range]
   rw [List.getD_eq_getElem?_getD,List.getElem?_append_left a2,List.getElem?_eq_getElem a2];rfl
def jh:AV:=.slice .any 1 [.slice .any 1 (gText0.map .str),.slice .any 1 (gText1.map .str),.slice .any 1 (gText2.map .str),.slice .any 1 (gText3.map .str)]
def mb:=eG fun b v=>(.slice .any 8 ((ce b v).map bI),v+12)
theorem vq:EntOk Try.prog 25 (Ent.effect mb):=by
 unfold mb
 refine EntOk.effect fun args H K h=>?_
 unfold eG at h
 split at h
 rotate_left
 ·exact h.elim
 rename_i id
 obtain ⟨b,v,hg,hb,hv,hK⟩:=jd h
 refine ⟨_,_,hK,?_⟩
 clear hK
 refine ACalls.fW aD (TblOk.cons iG (TblOk.cons iB TblOk.nil)) Try.func25 [.tmp 2] (Nat.le_refl _) (T:=az [(16,[[],[],[],[],[],[],[],[],[],[7],[],[],[5,7,9]]),(11,[[14]]),(13,[[1,1,1]])]) (h:=fun hcl hlt=>?_)
 clear hlt
 have hid:=AHeap.get_lt hg
 have hne:=ni hid
 have hne2:=ni (show id<H.nx+1+1+1+1+1+1+1+1+1+1+1+1+1+1+1+1 by omega)
 have hgc:=jx (b:=b) hid
 have hcl2:∀ w,(H.set id (dl b w)).Closed:=fun w=>ah hcl hO
 have c3:∀ u,(0≤((cv b u 3:Nat):Int)∧((cv b u 3:Nat):Int)<((3:Nat):Int))=True:=fun u=>CF (by decide)
 have w1:∀ (u n:Nat) (k:Int),0<n→n≤100→0≤k→k≤100→IntKind.i64.wrap (k+((cv b u n:Nat):Int))=k+((cv b u n:Nat):Int):=fun u n k h1 h2 h3 h4=>by
  have:=jg (b:=b) (v:=u) (n:=n) h1
  rw [wrap_i64 (by omega) (by omega)]
 have e2:(2:Int).toNat=2:=rfl
 have e5:(5:Int).toNat=5:=rfl
 have e6:(6:Int).toNat=6:=rfl
 have e3:(3:Int).toNat=3:=rfl
 have a12:∀ u,IntKind.i64.wrap (1+((cv b u 2:Nat):Int))=1+((cv b u 2:Nat):Int):=fun u=>w1 u 2 1 (by decide) (by decide) (by decide) (by decide)
 have a25:∀ u,IntKind.i64.wrap (2+((cv b u 5:Nat):Int))=2+((cv b u 5:Nat):Int):=fun u=>w1 u 5 2 (by decide) (by decide) (by decide) (by decide)
 have a36:∀ u,IntKind.i64.wrap (3+((cv b u 6:Nat):Int))=3+((cv b u 6:Nat):Int):=fun u=>w1 u 6 3 (by decide) (by decide) (by decide) (by decide)
 have a46:∀ u,IntKind.i64.wrap (4+((cv b u 6:Nat):Int))=4+((cv b u 6:Nat):Int):=fun u=>w1 u 6 4 (by decide) (by decide) (by decide) (by decide)
 have a35:∀ u,IntKind.i64.wrap (3+((cv b u 5:Nat):Int))=3+((cv b u 5:Nat):Int):=fun u=>w1 u 5 3 (by decide) (by decide) (by decide) (by decide)
 simp only [go_sem,bj,bb,hg,hgc,bk hb,bH,aU,bU,hne,e2,e3,e5,e6,a12,a25,a36,a46,a35]
 apply gU (α:=Nat × AHeap) (fun x=>[(0,.ptr id 0),(7,.ms x.1 0 8 4),(8,jh)]) (fun x=>x.2) (fun x=>x.2.Closed∧H.nx≤x.1∧x.1<x.2.nx∧But id H x.2∧x.2.get id=some (dl b (cp v 8))∧x.2.get x.1=some (.cells (pK b v 0)))
 ·intro J
  (repeat with_reducible refine And.intro (by first|exact True.intro|decide|omega|(simp [zim,zgm,zgn,zgo,zgq,zgp,zgu];first|done|omega)) ?_)
  refine ax (fun h1=>?_) (fun h1=>?_)
  all_goals
   simp only [cb,bM,bhq,Nat.reduceMod,Nat.reduceDiv,aM,aL,aO,bE,aN,bD,bz,bB,bA,yaq,yar,yao,yap,go_sem,bj,bb,hg,hgc,bk hb,bH,aU,bU,hne,e2,e3,e5,e6,a12,a25,a36,a46,a35]
   (repeat with_reducible refine And.intro (by first|exact True.intro|decide|omega|(simp [zim,zgm,zgn,zgo,zgq,zgp,zgu];first|done|omega)) ?_)
   refine ax (fun h2=>?_) (fun h2=>?_)
  all_goals
   simp only [cb,bM,bhq,Nat.reduceMod,Nat.reduceDiv,aM,aL,aO,bE,aN,bD,bz,bB,bA,yaq,yar,yao,yap,go_sem,bj,bb,hg,hgc,bk hb,bH,aU,bU,hne,e2,e3,e5,e6,a12,a25,a36,a46,a35]
   (repeat with_reducible refine And.intro (by first|exact True.intro|decide|omega|(simp [zim,zgm,zgn,zgo,zgq,zgp,zgu];first|done|omega)) ?_)
   refine ax (fun h3=>?_) (fun h3=>?_)
  all_goals
   simp only [cb,bM,bhq,Nat.reduceMod,Nat.reduceDiv,aM,aL,aO,bE,aN,bD,bz,bB,bA,yaq,yar,yao,yap,go_sem,bj,bb,hg,hgc,bk hb,bH,aU,bU,hne,e2,e3,e5,e6,a12,a25,a36,a46,a35]
   (repeat with_reducible refine And.intro (by first|exact True.intro|decide|omega|(simp [zim,zgm,zgn,zgo,zgq,zgp,zgu];first|done|omega)) ?_)
   refine qJ (s:=7) (pK b v 0) rfl (by simp only [go_sem];rfl) ?_ ?_
   ·first|replace h1:=of_decide_eq_true h1|replace h1:=of_decide_eq_false h1
    first|replace h2:=of_decide_eq_true h2|replace h2:=of_decide_eq_false h2
    first|replace h3:=of_decide_eq_true h3|replace h3:=of_decide_eq_false h3
    simp only [cp] at h1 h2 h3
    simp [pK,yJ,ce,kl,nY,dO,dT,bI,cg,inL,vv,h1,h2,h3,cp,AV.cells,hY,bG,bF,ca,dK,bZ,gt,gz,fV,wkM]
   refine fI 8 jh ?_ ?_
   ·simp [Fr.get,jh,gText0,gText1,gText2,gText3,AV.cells,bG,bF,ca,dK,bZ,gz,wkM]
   refine uB (s:=7) J rfl ?_ ?_ (by (try simp only [zkr,zkm,eI,zla,zlb]);omega) ?_ ?_
   ·repeat' (first|exact hcl2 _|refine af ?_|refine ah ?_ ?_|refine ae ?_ ?_)
    all_goals first|exact tM fun _=>cC _|(simp [aG,znq,znr,znb,znd,znc,znn,AV.cells,yal,yak,zla,zlb];try omega)
   ·dsimp only
    refine ⟨by (try simp only [zla,zlb]);omega,by (try simp only [zla,zlb]);omega,?_,?_,?_⟩
    ·repeat (first|exact But.self|refine But.push ?_ _|refine But.set ?_ _ (by first|exact .inl rfl|exact .inr (by (try simp only [zla,zlb]);omega)))
    ·simp only [go_sem,hne,hne2,hgc,cp]
    ·simp only [go_sem]
   ·simp [ltF,znj,znl,jh,gText0,gText1,gText2,gText3,znd,aG,znq,znr,zla,zlb]
    try omega
   ·simp [aI,wk2,wk1,wkM,Fr.get,jh]
 ·rintro ⟨i,Hc⟩ ⟨q3,q1,q2,q4,q5,q6⟩
  dsimp only at q1 q2 q3 q4 q5 q6 ⊢
  have hii:i≠id:=by omega
  have gtx:∀ u x y z,([AV.str x,.str y,.str z]:List AV).getD (cv b u 3) .junk=.str ([x,y,z].getD (cv b u 3) []):=fun u x y z=>by
   have:=jg (b:=b) (v:=u) (n:=3) (by decide)
   rcases (by omega:cv b u 3=0∨cv b u 3=1∨cv b u 3=2) with e|e|e<;>rw [e]<;>rfl
  have hic:id<Hc.nx:=AHeap.get_lt q5
  have hci:∀ C w,aA ((Hc.set i (.cells C)).set id (dl b w)) i=some C:=fun C w=>ai (by
   rw [AHeap.get_set_ne _ _ hii,AHeap.get_set_same _ _ q2])
  have hgd:∀ C w,((Hc.set i (.cells C)).set id (dl b w)).get id=some (dl b w):=fun C w=>AHeap.get_set_same _ _ (by rw [zlb];exact hic)
  have hsi:∀ C C' w,((Hc.set i (.cells C)).set id (dl b w)).set i (.cells C')=(Hc.set i (.cells C')).set id (dl b w):=fun C C' w=>by
   rw [← qd hii,A5,qd hii]
  have hsd:∀ C w w',((Hc.set i (.cells C)).set id (dl b w)).set id (dl b w')=(Hc.set i (.cells C)).set id (dl b w'):=fun C w w'=>wP
  have hclo:∀ k w,((Hc.set i (.cells (pK b v k))).set id (dl b w)).Closed:=fun k w=>ah (ah q3 (tM fun _=>cC _)) hO
  simp only [bhq,Nat.reduceMod,Nat.reduceDiv,aM,aL,aO,bE,aN,bD,bz,bB,bA,yaq,yar,yao,yap,go_sem]
  refine aB (A:=Nat) (fun k=>[(0,.ptr id 0),(7,.ms i 0 8 4),(8,jh),(80,.int .i64 4),(81,.int .i64 (k:Int))]) (fun k=>(Hc.set i (.cells (pK b v k))).set id (dl b (cp v (8+k)))) (fun k=>k≤4) (fun k=>4 - k) 0 (by omega) ?_ fun k hk=>?_
  ·refine ⟨by simp only [zlb,zkm,zkr];have:=q4.nx;omega,?_,hclo _ _,?_,?_⟩
   ·exact ((iW (by rw [AHeap.get_set_ne _ _ (fun e=>hii e.symm)];exact q5)).trans (iW q6))
   ·simp [ltF,znj,znl,znb,jh,gText0,gText1,gText2,gText3,znd,aG,znq,znr,zlb]
    omega
   ·simp [aI,wk2,wk1,wkM,Fr.get,jh]
  simp only [go_sem]
  refine ax (fun hc=>?_) (fun hc=>?_)
  ·have hk4:k<4:=by simp at hc;omega
   have c3':∀ u,(0≤((cv b u 3:Nat):Int)∧((cv b u 3:Nat):Int)<((3:Nat):Int)):=fun u=>of_eq_true (c3 u)
   have e4:IntKind.i64.wrap ((k:Int)+1)=((k+1:Nat):Int):=by rw [wrap_i64]<;>omega
   rcases (by omega:k=0∨k=1∨k=2∨k=3) with rfl|rfl|rfl|rfl
   ·simp only [go_sem,jh,gText0,gText1,gText2,gText3,bj,hgd,hci,hsi,hsd,bk hb,bH,aU,bU,e3,gtx,c3',e4,show IntKind.i64.wrap 1=1 from by decide,Int.toNat_natCast,zog,pK,yJ,ce,List.flatMap_cons,List.flatMap_nil,bI,AV.cells,yal,yak]
    refine ⟨by decide,by decide,by decide,1,by decide,by decide,by simp only [zlb,zkm,zkr];have:=q4.nx;omega,AHeap.Le.refl _,hclo 1 _,?_,?_⟩
    ·simp [ltF,znj,znl,znb,znd,aG,znq,znr,zlb]
     omega
    ·simp [aI,wk2,wk1,wkM,Fr.get]
   ·simp only [go_sem,jh,gText0,gText1,gText2,gText3,bj,hgd,hci,hsi,hsd,bk hb,bH,aU,bU,e3,gtx,c3',e4,show IntKind.i64.wrap 1=1 from by decide,Int.toNat_natCast,zog,pK,yJ,ce,List.flatMap_cons,List.flatMap_nil,bI,AV.cells,yal,yak]
    refine ⟨by decide,by decide,by decide,2,by decide,by decide,by simp only [zlb,zkm,zkr];have:=q4.nx;omega,AHeap.Le.refl _,hclo 2 _,?_,?_⟩
    ·simp [ltF,znj,znl,znb,znd,aG,znq,znr,zlb]
     omega
    ·simp [aI,wk2,wk1,wkM,Fr.get]
   ·simp only [go_sem,jh,gText0,gText1,gText2,gText3,bj,hgd,hci,hsi,hsd,bk hb,bH,aU,bU,e3,gtx,c3',e4,show IntKind.i64.wrap 1=1 from by decide,Int.toNat_natCast,zog,pK,yJ,ce,List.flatMap_cons,List.flatMap_nil,bI,AV.cells,yal,yak]
    refine ⟨by decide,by decide,by decide,3,by decide,by decide,by simp only [zlb,zkm,zkr];have:=q4.nx;omega,AHeap.Le.refl _,hclo 3 _,?_,?_⟩
    ·simp [ltF,znj,znl,znb,znd,aG,znq,znr,zlb]
     omega
    ·simp [aI,wk2,wk1,wkM,Fr.get]
   ·simp only [go_sem,jh,gText0,gText1,gText2,gText3,bj,hgd,hci,hsi,hsd,bk hb,bH,aU,bU,e3,gtx,c3',e4,show IntKind.i64.wrap 1=1 from by decide,Int.toNat_natCast,zog,pK,yJ,ce,List.flatMap_cons,List.flatMap_nil,bI,AV.cells,yal,yak]
    refine ⟨by decide,by decide,by decide,4,by decide,by decide,by simp only [zlb,zkm,zkr];have:=q4.nx;omega,AHeap.Le.refl _,hclo 4 _,?_,?_⟩
    ·simp [ltF,znj,znl,znb,znd,aG,znq,znr,zlb]
     omega
    ·simp [aI,wk2,wk1,wkM,Fr.get]
  ·have hk4:k=4:=by simp at hc;omega
   subst hk4
   simp only [go_sem]
   have hr:bv 8 4 (pK b v 4)=(ce b v).map bI:=jY (by decide) (fun t=>(bI t).cells) (fun _=>rfl) (ce b v)
   refine ⟨?_,?_,hcl2 _,aY cC⟩
   ·simp only [wk,wk2,wk1,hci,yap,hr,true_or,true_and]
    rw [zmr (by rw [zlb];exact q1)]
   ·exact ((q4.set _ (.inr q1)).set _ (.inl rfl)).le (hgd _ _)
end Go.AL
open Go Go.AL Go.Proofs
namespace Go.AL
set_option linter.all false
set_option maxRecDepth 10000
def kY:=eG fun b v=>(.slice .any 5 ((cl b v).map bW),v+4)
/-- the actions; a restriction where it is set -/
def yj (b:List UInt8) (v:Nat) (r1 r2:Bool):List AV:=((cl b v).map fun a=>(⟨a.id,a.name,a.params,a.body,if a.id=3∧r1=true then [112,111,114,116,32,33,61,32,48] else if a.id=5∧r2=true then [120,32,60,32,121,32,124,124,32,120,32,61,61,32,49,53] else []⟩:SAction)).flatMap fun a=>(bW a).cells
theorem zp {b:List UInt8} {v:Nat}:yj b v (decide (cv b (v+2) 2=1)) (decide (cv b (v+3) 2=1))=(cl b v).flatMap fun a=>(bW a).cells:=by
 by_cases h1:cv b (v+2) 2=1<;>by_cases h2:cv b (v+3) 2=1<;>simp [yj,cl,bW,AV.cells,h1,h2]
theorem tQ:EntOk Try.prog 24 (Ent.effect kY):=by
 unfold kY
 refine EntOk.effect fun args H K h=>?_
 unfold eG at h
 split at h
 rotate_left
 ·exact h.elim
 rename_i id
 obtain ⟨b,v,hg,hb,hv,hK⟩:=jd h
 refine ⟨_,_,hK,?_⟩
 clear hK
 dsimp only
 generalize hres:AV.slice .any 5 ((cl b v).map bW)=res
 refine ACalls.fW aD (TblOk.cons iG (TblOk.cons iB TblOk.nil)) Try.func24 [.tmp 2] (Nat.le_refl _) (T:=az [(2,[[],[],[],[],[],[],[],[],[],[],[],[],[],[],[],[],[],[],[],[],[],[],[],[],[],[],[],[],[],[],[],[],[],[29],[29,33],[],[],[],[29,33],[],[6,12,22,29,33]]),(802,[[100002],[100005],[100008],[100011],[100016],[100020],[100026],[100044]]),(1202,[[40]]),(3,[[1]])]) (h:=fun hcl hlt=>?_)
 clear hlt
 have hid:=AHeap.get_lt hg
 have hne:=ni hid
 have hne2:=ni (show id<H.nx+1+1+1+1+1+1+1+1+1+1+1+1+1+1+1+1 by omega)
 have hgc:=jx (b:=b) hid
 have hcl2:∀ w,(H.set id (dl b w)).Closed:=fun w=>ah hcl hO
 have e2:(2:Int).toNat=2:=rfl
 have e256:(256:Int).toNat=256:=rfl
 have a22:∀ u,IntKind.i64.wrap (2+((cv b u 2:Nat):Int))=2+((cv b u 2:Nat):Int):=fun u=>by
  have:=jg (b:=b) (v:=u) (n:=2) (by decide)
  rw [wrap_i64 (by omega) (by omega)]
 have u256:∀ u,IntKind.u64.wrap ((cv b u 256:Nat):Int)=((cv b u 256:Nat):Int):=fun u=>by
  have:=jg (b:=b) (v:=u) (n:=256) (by decide)
  rw [gd (by omega) (by omega)]
 simp only [go_sem,bj,bb,hg,hgc,bk hb,bH,aU,bU,hne,hne2,e2,e256,a22,u256]
 (repeat with_reducible refine And.intro (by first|exact True.intro|decide|omega|(simp [zim,zgm,zgn,zgo,zgq,zgp,zgu];first|done|omega)) ?_)
 simp only [cb,bM,bhq,Nat.reduceMod,Nat.reduceDiv,aM,aL,aO,bE,aN,bD,bz,bB,bA,yaq,yar,yao,yap,go_sem,bj,bb,hg,hgc,bk hb,bH,aU,bU,hne,hne2,e2,e256,a22,u256]
 refine qJ (s:=4) (yj b v false false) rfl (by simp only [go_sem];rfl) ?_ ?_
 ·simp [yj,cl,bW,bq,rB,vc,cp,AV.cells,hY,bG,bF,ca,dK,bZ,gt,gz,fV,wkM]
  have:=jg (b:=b) (v:=v+1) (n:=256) (by decide)
  omega
 simp only [cb,bM,bhq,Nat.reduceMod,Nat.reduceDiv,aM,aL,aO,bE,aN,bD,bz,bB,bA,yaq,yar,yao,yap,go_sem,bj,bb,hg,hgc,bk hb,bH,aU,bU,hne,hne2,e2,e256,a22,u256]
 refine ax (fun h1=>?_) (fun h1=>?_)
 all_goals
  simp only [cb,bM,bhq,Nat.reduceMod,Nat.reduceDiv,aM,aL,aO,bE,aN,bD,bz,bB,bA,yaq,yar,yao,yap,go_sem,bj,bb,hg,hgc,bk hb,bH,aU,bU,hne,hne2,e2,e256,a22,u256,yj,cl,List.flatMap_cons,List.flatMap_nil,bW,AV.cells,yal,yak]
  (repeat with_reducible refine And.intro (by first|exact True.intro|decide|omega|(simp [zim,zgm,zgn,zgo,zgq,zgp,zgu];first|done|omega)) ?_)
  refine ax (fun h2=>?_) (fun h2=>?_)
 all_goals
  try simp only [cb,bM,bhq,Nat.reduceMod,Nat.reduceDiv,aM,aL,aO,bE,aN,bD,bz,bB,bA,yaq,yar,yao,yap,go_sem,bj,bb,hg,hgc,bk hb,bH,aU,bU,hne,hne2,e2,e256,a22,u256,yj,cl,List.flatMap_cons,List.flatMap_nil,bW,AV.cells,yal,yak]
  (repeat with_reducible refine And.intro (by first|exact True.intro|decide|omega|(simp [zim,zgm,zgn,zgo,zgq,zgp,zgu];first|done|omega)) ?_)
  have hA:=zp (b:=b) (v:=v)
  rw [show decide (cv b (v+2) 2=1)=_ from h1,show decide (cv b (v+3) 2=1)=_ from h2] at hA
  have hr:=jY (sz:=5) (by decide) (fun t=>(bW t).cells) (fun _=>rfl) (cl b v)
  rw [← hA] at hr
  subst hres
  refine ⟨?_,?_,hcl2 _,aY gD⟩
  ·simp only [wk,wk2,wk1,go_sem,yap,true_or,true_and]
   refine ⟨?_,?_⟩
   ·exact hr.symm
   ·rw [zmr (by (try simp only [zlb]);omega)]
  ·refine But.le (id:=id) ?_ ?_
   ·repeat (first|exact But.self|refine But.push ?_ _|refine But.set ?_ _ (by first|exact .inl rfl|exact .inr (by (try simp only [zla,zlb]);omega)))
   ·simp only [go_sem,hne,hne2,hgc,cp]
end Go.AL
