/- Contracts and plain laws, a part of the proof; no condition of its own. -/
import Derived.Test.YtiiiljghmilepaaS10z
import Derived.Test.YtiiiljghmilepaaLVal
import Derived.Test.YtiiiljghmilepaaLSch2
set_option maxHeartbeats 32000000
open List renaming length_cons → yaz, length_nil → yba, take_of_length_le → ybc, drop_append → ybd, take_append → ybe, drop_eq_nil_of_le → ybf, cons_append → yal, nil_append → yak, take_succ_cons → yaq, take_zero → yar, drop_succ_cons → yao, drop_zero → yap, map_cons → yae
open Go Go.AL Go.Proofs
namespace Go.AL
set_option linter.all false
set_option maxRecDepth 10000
theorem wn:ti Try.prog 3=some ⟨.int .i64,1,8,.int .i64 0⟩:=by kernel_rfl
theorem sA:ti Try.prog 134=some ⟨.struct [(0,3,false),(1,9,false),(2,3,false)],3,32,.agg [.int .i64 0,.str [],.int .i64 0]⟩:=by kernel_rfl
theorem qM:ti Try.prog 136=some ⟨.struct [(0,3,false),(1,9,false),(2,66,false)],3,48,.agg [.int .i64 0,.str [],.slice .nil 1 []]⟩:=by kernel_rfl
theorem uf:ti Try.prog 170=some ⟨.struct [(0,56,false),(2,56,false),(4,3,false)],5,40,.agg [.int .u64 0,.int .u64 0,.int .u64 0,.int .u64 0,.int .i64 0]⟩:=by kernel_rfl
theorem sg:ti Try.prog 168=some ⟨.struct [(0,3,false),(1,3,false),(2,3,false),(3,166,false),(4,3,false)],5,56,.agg [.int .i64 0,.int .i64 0,.int .i64 0,.slice .nil 1 [],.int .i64 0]⟩:=by kernel_rfl
theorem uv:ti Try.prog 174=some ⟨.struct [(0,3,false),(1,3,false),(2,172,false)],6,48,.agg [.int .i64 0,.int .i64 0,.int .i64 0,.int .i64 0,.int .u64 0,.int .u64 0]⟩:=by kernel_rfl
theorem pD:ti Try.prog 172=some ⟨.struct [(0,3,false),(1,3,false),(2,56,false)],4,32,.agg [.int .i64 0,.int .i64 0,.int .u64 0,.int .u64 0]⟩:=by kernel_rfl
theorem s8:ti Try.prog 132=some ⟨.struct [(0,9,false),(1,3,false)],2,24,.agg [.str [],.int .i64 0]⟩:=by kernel_rfl
theorem qS:ti Try.prog 73=some ⟨.struct [(0,3,false),(1,9,false),(2,70,false),(3,71,false),(4,9,false)],5,88,.agg [.int .i64 0,.str [],.slice .nil 1 [],.slice .nil 1 [],.str []]⟩:=by kernel_rfl
theorem wQ:ti Try.prog 119=some ⟨.struct [(0,9,false),(1,3,false),(2,3,false)],3,32,.agg [.str [],.int .i64 0,.int .i64 0]⟩:=by kernel_rfl
theorem tE:ti Try.prog 69=some ⟨.struct [(0,3,false),(1,9,false),(2,65,false),(3,66,false),(4,3,false),(5,67,false),(6,3,false),(7,9,false)],8,128,.agg [.int .i64 0,.str [],.slice .nil 1 [],.slice .nil 1 [],.int .i64 0,.slice .nil 1 [],.int .i64 0,.str []]⟩:=by kernel_rfl
theorem sb:ti Try.prog 142=some ⟨.struct [(0,3,false),(1,3,false)],2,16,.agg [.int .i64 0,.int .i64 0]⟩:=by kernel_rfl
theorem tu:ti Try.prog 181=some ⟨.struct [(0,3,false),(1,4,false),(2,4,false),(3,179,false)],4,40,.agg [.int .i64 0,.bool false,.bool false,.slice .nil 1 []]⟩:=by kernel_rfl
theorem uU:ti Try.prog 178=some ⟨.struct [(0,3,false),(1,9,false),(2,176,false),(3,66,false),(4,3,false),(5,4,false)],6,88,.agg [.int .i64 0,.str [],.slice .nil 1 [],.slice .nil 1 [],.int .i64 0,.bool false]⟩:=by kernel_rfl
theorem wU:ti Try.prog 144=some ⟨.struct [(0,3,false),(1,3,false),(2,3,false),(3,3,false),(4,3,false),(5,3,false)],6,48,.agg [.int .i64 0,.int .i64 0,.int .i64 0,.int .i64 0,.int .i64 0,.int .i64 0]⟩:=by kernel_rfl
theorem qw:ti Try.prog 88=some ⟨.struct [(0,79,false),(1,80,false),(2,81,false),(3,82,false),(4,83,false),(5,84,false),(6,85,false),(7,86,false),(8,3,false),(9,3,false)],10,208,.agg [.slice .nil 1 [],.slice .nil 1 [],.slice .nil 1 [],.slice .nil 1 [],.slice .nil 1 [],.slice .nil 1 [],.slice .nil 1 [],.slice .nil 1 [],.int .i64 0,.int .i64 0]⟩:=by kernel_rfl
theorem sf:ti Try.prog 79=some ⟨.slice 134,1,24,.slice .nil 1 []⟩:=by kernel_rfl
theorem qN:ti Try.prog 80=some ⟨.slice 136,1,24,.slice .nil 1 []⟩:=by kernel_rfl
theorem tV:ti Try.prog 166=some ⟨.slice 170,1,24,.slice .nil 1 []⟩:=by kernel_rfl
theorem tt:ti Try.prog 81=some ⟨.slice 168,1,24,.slice .nil 1 []⟩:=by kernel_rfl
theorem vK:ti Try.prog 71=some ⟨.slice 174,1,24,.slice .nil 1 []⟩:=by kernel_rfl
theorem tc:ti Try.prog 70=some ⟨.slice 132,1,24,.slice .nil 1 []⟩:=by kernel_rfl
theorem qR:ti Try.prog 82=some ⟨.slice 73,1,24,.slice .nil 1 []⟩:=by kernel_rfl
theorem xf:ti Try.prog 65=some ⟨.slice 119,1,24,.slice .nil 1 []⟩:=by kernel_rfl
theorem sO:ti Try.prog 83=some ⟨.slice 69,1,24,.slice .nil 1 []⟩:=by kernel_rfl
theorem tD:ti Try.prog 84=some ⟨.slice 142,1,24,.slice .nil 1 []⟩:=by kernel_rfl
theorem sq:ti Try.prog 176=some ⟨.slice 181,1,24,.slice .nil 1 []⟩:=by kernel_rfl
theorem uL:ti Try.prog 85=some ⟨.slice 178,1,24,.slice .nil 1 []⟩:=by kernel_rfl
theorem xb:ti Try.prog 86=some ⟨.slice 144,1,24,.slice .nil 1 []⟩:=by kernel_rfl
theorem ww:ti Try.prog 67=some ⟨.slice 56,1,24,.slice .nil 1 []⟩:=by kernel_rfl
theorem wG:ti Try.prog 66=some ⟨.slice 3,1,24,.slice .nil 1 []⟩:=by kernel_rfl
theorem v8:ti Try.prog 179=some ⟨.slice 4,1,24,.slice .nil 1 []⟩:=by kernel_rfl
attribute [go_sem] wn sA qM uf sg uv pD s8 qS wQ tE sb tu uU wU qw sf qN tV tt vK tc qR xf sO tD sq uL xb ww wG v8
/-- the next choice of two -/
def aL:List AV→AHeap→(AEnd→AHeap→Prop)→Prop
 |[.ptr id 0],H,K=>onC (H.get id) fun b v=>K (.ret (.bool (decide (cv b v 2=1)))) (H.set id (cu b (v+1)))
 |_,_,_=>False
theorem fU:EntOk Try.prog 53 (Ent.effect aL):=by
 refine EntOk.effect fun args H K h=>?_
 unfold aL at h
 split at h
 rotate_left
 ·exact h.elim
 rename_i id
 obtain ⟨b,v,hg,hb,hv,hK⟩:=gr h
 refine ⟨_,_,hK,?_⟩
 clear hK
 refine ACalls.fW aE (TblOk.cons gd TblOk.nil) Try.func53 [.tmp 2] (Nat.le_refl _) (T:=ax []) (h:=fun hcl hlt=>?_)
 clear hlt
 have hid:=AHeap.get_lt hg
 have hcl2:(H.set id (cu b (v+1))).Closed:=ah hcl fy
 have e2:(2:Int).toNat=2:=rfl
 simp only [go_sem,aR,hg,aS hb,cp,e2,Nat.add_zero,Nat.min_eq_left hv]
 have e:((((cv b v 2:Nat):Int))==1)=decide (cv b v 2=1):=by rw [Bool.eq_iff_iff];simp;omega
 refine ⟨⟨by decide,by decide⟩,?_⟩
 rw [e]
 simp (disch:=first|assumption|omega|(simp;done)|(simp;omega)|(simp only [bt,and_true];first|done|omega|(simp;done))) [↓zmi,beq,ybc,ybd,ybe,ag,wk,wk2,wk1,wkM,wkL,ak,ybf,hcl2]
theorem kG {id n:Nat} (h:id<n):((id=n)=False)∧((id=n+1)=False)∧((id=n+1+1)=False)∧((id=n+1+1+1)=False)∧((id=n+1+1+1+1)=False)∧((id=n+1+1+1+1+1)=False)∧((id=n+1+1+1+1+1+1)=False)∧((id=n+1+1+1+1+1+1+1)=False)∧((id=n+1+1+1+1+1+1+1+1)=False)∧((id=n+1+1+1+1+1+1+1+1+1)=False)∧((id=n+1+1+1+1+1+1+1+1+1+1)=False)∧((id=n+1+1+1+1+1+1+1+1+1+1+1)=False)∧((id=n+1+1+1+1+1+1+1+1+1+1+1+1)=False)∧((id=n+1+1+1+1+1+1+1+1+1+1+1+1+1)=False)∧((id=n+1+1+1+1+1+1+1+1+1+1+1+1+1+1)=False)∧((id=n+1+1+1+1+1+1+1+1+1+1+1+1+1+1+1)=False) :=
 ⟨eq_false (by omega),eq_false (by omega),eq_false (by omega),eq_false (by omega),eq_false (by omega),eq_false (by omega),eq_false (by omega),eq_false (by omega),eq_false (by omega),eq_false (by omega),eq_false (by omega),eq_false (by omega),eq_false (by omega),eq_false (by omega),eq_false (by omega),eq_false (by omega)⟩
theorem h9 {H:AHeap} {id:Nat} (h:id<H.nx) (b:List UInt8) (v:Nat):(H.set id (cu b v)).get id=some (cu b v):=AHeap.get_set_same _ _ h
theorem ex {b:List UInt8} {v:Nat}:([AV.int .i64 0,.int .i64 0,.int .i64 65535,.int .i64 3].getD (cv b v 4) .junk)=.int .i64 (gS (cv b v 4)):=by
 have h:=gT (b:=b) (v:=v) (n:=4) (by decide)
 unfold gS
 generalize cv b v 4=c at *
 match c,h with
 |0,_=>rfl
 |1,_=>rfl
 |2,_=>rfl
 |3,_=>rfl
theorem bg {α:Type} {n sz:Nat} {f:α→AV} {l:List α} (h:∀ x,AV.lt n (f x)):AV.lt n (.slice .any sz (l.map f)):=m9 fun x hx=>by
 obtain ⟨y,_,rfl⟩:=List.mem_map.1 hx
 exact h y
theorem eo {n v:Nat} {l:List AV}:ltL n (vc v++l)=ltL n l:=by simp [vc,zno,zmz]
theorem dm {n v:Nat}:ltL n (vc v)=True:=by simp [vc,zno,znp,zmz]
theorem qo {n:Nat} {l:List Int}:AV.lt n (.slice .any 1 (inL l)):=bg fun x=>by simp only [zmz]
theorem vN {n:Nat} {l:List Bool}:AV.lt n (.slice .any 1 (boL l)):=bg fun x=>by simp only [zna]
theorem ym {n:Nat} {l:List Nat}:AV.lt n (.slice .any 2 (l.map vv)):=bg fun x=>by simp only [vv,znl,zno,znp,zmz,and_true]
theorem uO {n:Nat} (x:SField):AV.lt n (iR x):=by
 simp only [iR,znl,zno,znp,zmz,znb,zna,eo,dm,List.append_assoc,yal,yak,true_and,and_true]
theorem sL {n:Nat} (x:SHeader):AV.lt n (fV x):=by
 simp only [fV,znl,zno,znp,zmz,znb,zna,eo,dm,List.append_assoc,yal,yak,true_and,and_true]
 exact qo
theorem xe {n:Nat} (x:SCase):AV.lt n (jo x):=by
 simp only [jo,znl,zno,znp,zmz,znb,zna,eo,dm,List.append_assoc,yal,yak,true_and,and_true]
theorem ef {n:Nat} (x:SState):AV.lt n (cB x):=by
 simp only [cB,znl,zno,znp,zmz,znb,zna,eo,dm,List.append_assoc,yal,yak,true_and,and_true]
 exact bg xe
theorem wY {n:Nat} (x:SPrim):AV.lt n (lv x):=by
 simp only [lv,znl,zno,znp,zmz,znb,zna,eo,dm,List.append_assoc,yal,yak,true_and,and_true]
theorem vF {n:Nat} (x:SParam):AV.lt n (bv x):=by
 simp only [bv,znl,zno,znp,zmz,znb,zna,eo,dm,List.append_assoc,yal,yak,true_and,and_true]
theorem iK {n:Nat} (x:SAction):AV.lt n (bw x):=by
 simp only [bw,znl,zno,znp,zmz,znb,zna,eo,dm,List.append_assoc,yal,yak,true_and,and_true]
 exact ⟨bg vF,bg wY⟩
theorem xU {n:Nat} (x:SKey):AV.lt n (bS x):=by
 simp only [bS,znl,zno,znp,zmz,znb,zna,eo,dm,List.append_assoc,yal,yak,true_and,and_true]
theorem ce {n:Nat} (x:STable):AV.lt n (bk x):=by
 simp only [bk,znl,zno,znp,zmz,znb,zna,eo,dm,List.append_assoc,yal,yak,true_and,and_true]
 exact ⟨bg xU,qo,ym⟩
theorem vq {n:Nat} (x:SStage):AV.lt n (iN x):=by
 simp only [iN,znl,zno,znp,zmz,znb,zna,eo,dm,List.append_assoc,yal,yak,true_and,and_true]
theorem jE {n:Nat} (x:SGrant):AV.lt n (bV x):=by
 simp only [bV,znl,zno,znp,zmz,znb,zna,eo,dm,List.append_assoc,yal,yak,true_and,and_true]
 exact vN
theorem rj {n:Nat} (x:SRole):AV.lt n (fT x):=by
 simp only [fT,znl,zno,znp,zmz,znb,zna,eo,dm,List.append_assoc,yal,yak,true_and,and_true]
 exact ⟨bg jE,qo⟩
theorem xE {n:Nat} (x:SRef):AV.lt n (nK x):=by
 simp only [nK,znl,zno,znp,zmz,znb,zna,eo,dm,List.append_assoc,yal,yak,true_and,and_true]
theorem wg {n:Nat} (x:Sch):AV.lt n (lu x):=by
 simp only [lu,po,znl,zno,znp,zmz,true_and,and_true]
 exact ⟨bg uO,bg sL,bg ef,bg iK,bg ce,bg vq,bg rj,bg xE⟩
theorem xD {b:List UInt8} {u n:Nat} (h:0<n):(0≤((cv b u n:Nat):Int)∧((cv b u n:Nat):Int)<(n:Int))=True:=eq_true ⟨by omega,by have:=gT (b:=b) (v:=u) h;omega⟩
/-- a function that takes from the choices -/
def eG (g:List UInt8→Nat→AV × Nat):List AV→AHeap→(AEnd→AHeap→Prop)→Prop
 |[.ptr id 0],H,K=>onC (H.get id) fun b v=>K (.ret (g b v).1) (H.set id (cu b (g b v).2))
 |_,_,_=>False
def j8:=eG fun b v=>(.slice .any 5 ((a9 b v).1.map cB),(a9 b v).2)
theorem qU:EntOk Try.prog 49 (Ent.effect j8):=by
 unfold j8
 refine EntOk.effect fun args H K h=>?_
 unfold eG at h
 split at h
 rotate_left
 ·exact h.elim
 rename_i id
 obtain ⟨b,v,hg,hb,hv,hK⟩:=gr h
 refine ⟨_,_,hK,?_⟩
 clear hK
 refine ACalls.fW aE (TblOk.cons gd (TblOk.cons fU TblOk.nil)) Try.func49 [.tmp 2] (Nat.le_refl _) (T:=ax [(5,[[],[],[],[],[],[3],[],[],[],[],[3],[],[3,10],[],[3,10,12],[1,3,10,12],[],[1,3,10,12]]),(10,[[16]])]) (h:=fun hcl hlt=>?_)
 clear hlt
 have hid:=AHeap.get_lt hg
 have hne:=kG hid
 have hgc:=h9 (b:=b) hid
 have hcl2:∀ w,(H.set id (cu b w)).Closed:=fun w=>ah hcl fy
 have c4:∀ u,(0≤((cv b u 4:Nat):Int)∧((cv b u 4:Nat):Int)<((4:Nat):Int))=True:=fun u=>xD (by decide)
 simp only [go_sem,aR,aL,hg,hgc,aS hb,bf,aH,bu,hne,ex,c4,Int.toNat_natCast]
 have w8:∀ u,IntKind.u64.wrap (IntKind.i64.wrap (8*((cv b u 2:Nat):Int)))=((8*cv b u 2:Nat):Int):=fun u=>by
  have:=gT (b:=b) (v:=u) (n:=2) (by decide)
  rw [wrap_i64 (by omega) (by omega),qd (by omega) (by omega)];omega
 have w1:∀ u,IntKind.i64.wrap (1+((cv b u 3:Nat):Int))=1+((cv b u 3:Nat):Int):=fun u=>by
  have:=gT (b:=b) (v:=u) (n:=3) (by decide)
  rw [wrap_i64 (by omega) (by omega)]
 have hvs:∀ u,vc (8*cv b u 2)=[.int .u64 0,.int .u64 ((8*cv b u 2:Nat):Int)]:=fun u=>g8 (by
  have:=gT (b:=b) (v:=u) (n:=2) (by decide)
  omega)
 refine ⟨by decide,al (fun h1=>?_) (fun h1=>?_)⟩
 ·have h1':cv b (v+1) 2=1:=of_decide_eq_true h1
  simp only [co,cl,bhq,Nat.reduceMod,Nat.reduceDiv,aW,aX,aZ,bO,a8,bM,bG,bJ,bK,yaq,yar,yao,yap,go_sem,aR,aL,hg,hgc,aS hb,bf,aH,bu,hne,ex,c4,w8,w1,Int.toNat_natCast]
  refine ⟨by decide,by decide,⟨by simp [zik,zgl,zgm,zgn],by decide,by decide,al (fun h2=>?_) (fun h2=>?_)⟩⟩
  ·have h2':cv b (v+5) 3=1:=by simp [cp] at h2;omega
   simp only [co,cl,bhq,Nat.reduceMod,Nat.reduceDiv,aW,aX,aZ,bO,a8,bM,bG,bJ,bK,yaq,yar,yao,yap,go_sem,aR,aL,hg,hgc,aS hb,bf,aH,bu,hne,ex,c4,w8,w1,Int.toNat_natCast]
   refine ⟨by decide,?_⟩
   refine eE 2 (.slice .any 5 ((a9 b v).1.map cB)) ?_ ?_
   ·simp [Fr.get,a9,h1',h2',cB,jo,g8,cp,hvs,fN,di,dk,dT,dj,dW,fF,eX,eT,wkM,zik]
   ·have e:(a9 b v).2=cp v 7:=by unfold a9;simp only [h1',h2',if_true,if_false];rfl
    rw [e]
    simp only [go_sem,bhq,Nat.reduceMod,Nat.reduceDiv,aW,aX,aZ,bO,a8,bM,bG,bJ,bK,yaq,yar,yao,yap]
    simp (disch:=first|assumption|omega|(simp;done)|(simp;omega)|(simp only [bt,and_true];first|done|omega|(simp;done))) [↓zmi,beq,ybc,ybd,ybe,ag,wk,wk2,wk1,wkM,wkL,ak,ybf,hcl2]
    first|exact bg ef|exact ⟨by repeat first|exact .refl _|refine .push ?_ _,bg ef⟩
  ·have h2':¬ cv b (v+5) 3=1:=by simp [cp] at h2;omega
   simp only [co,cl,bhq,Nat.reduceMod,Nat.reduceDiv,aW,aX,aZ,bO,a8,bM,bG,bJ,bK,yaq,yar,yao,yap,go_sem,aR,aL,hg,hgc,aS hb,bf,aH,bu,hne,ex,c4,w8,w1,Int.toNat_natCast]
   refine eE 2 (.slice .any 5 ((a9 b v).1.map cB)) ?_ ?_
   ·simp [Fr.get,a9,h1',h2',cB,jo,g8,cp,hvs,fN,di,dk,dT,dj,dW,fF,eX,eT,wkM,zik]
   ·have e:(a9 b v).2=cp v 6:=by unfold a9;simp only [h1',h2',if_true,if_false];rfl
    rw [e]
    simp only [go_sem,bhq,Nat.reduceMod,Nat.reduceDiv,aW,aX,aZ,bO,a8,bM,bG,bJ,bK,yaq,yar,yao,yap]
    simp (disch:=first|assumption|omega|(simp;done)|(simp;omega)|(simp only [bt,and_true];first|done|omega|(simp;done))) [↓zmi,beq,ybc,ybd,ybe,ag,wk,wk2,wk1,wkM,wkL,ak,ybf,hcl2]
    first|exact bg ef|exact ⟨by repeat first|exact .refl _|refine .push ?_ _,bg ef⟩
 ·have h1':¬ cv b (v+1) 2=1:=of_decide_eq_false h1
  simp only [co,cl,bhq,Nat.reduceMod,Nat.reduceDiv,aW,aX,aZ,bO,a8,bM,bG,bJ,bK,yaq,yar,yao,yap,go_sem,aR,aL,hg,hgc,aS hb,bf,aH,bu,hne,ex,c4,w8,w1,Int.toNat_natCast]
  refine ⟨by decide,by decide,al (fun h2=>?_) (fun h2=>?_)⟩
  ·have h2':cv b (v+3) 3=1:=by simp [cp] at h2;omega
   simp only [co,cl,bhq,Nat.reduceMod,Nat.reduceDiv,aW,aX,aZ,bO,a8,bM,bG,bJ,bK,yaq,yar,yao,yap,go_sem,aR,aL,hg,hgc,aS hb,bf,aH,bu,hne,ex,c4,w8,w1,Int.toNat_natCast]
   refine ⟨by decide,?_⟩
   refine eE 2 (.slice .any 5 ((a9 b v).1.map cB)) ?_ ?_
   ·simp [Fr.get,a9,h1',h2',cB,jo,g8,cp,hvs,fN,di,dk,dT,dj,dW,fF,eX,eT,wkM,zik]
   ·have e:(a9 b v).2=cp v 5:=by unfold a9;simp only [h1',h2',if_true,if_false];rfl
    rw [e]
    simp only [go_sem,bhq,Nat.reduceMod,Nat.reduceDiv,aW,aX,aZ,bO,a8,bM,bG,bJ,bK,yaq,yar,yao,yap]
    simp (disch:=first|assumption|omega|(simp;done)|(simp;omega)|(simp only [bt,and_true];first|done|omega|(simp;done))) [↓zmi,beq,ybc,ybd,ybe,ag,wk,wk2,wk1,wkM,wkL,ak,ybf,hcl2]
    first|exact bg ef|exact ⟨by repeat first|exact .refl _|refine .push ?_ _,bg ef⟩
  ·have h2':¬ cv b (v+3) 3=1:=by simp [cp] at h2;omega
   simp only [co,cl,bhq,Nat.reduceMod,Nat.reduceDiv,aW,aX,aZ,bO,a8,bM,bG,bJ,bK,yaq,yar,yao,yap,go_sem,aR,aL,hg,hgc,aS hb,bf,aH,bu,hne,ex,c4,w8,w1,Int.toNat_natCast]
   refine eE 2 (.slice .any 5 ((a9 b v).1.map cB)) ?_ ?_
   ·simp [Fr.get,a9,h1',h2',cB,jo,g8,cp,hvs,fN,di,dk,dT,dj,dW,fF,eX,eT,wkM,zik]
   ·have e:(a9 b v).2=cp v 4:=by unfold a9;simp only [h1',h2',if_true,if_false];rfl
    rw [e]
    simp only [go_sem,bhq,Nat.reduceMod,Nat.reduceDiv,aW,aX,aZ,bO,a8,bM,bG,bJ,bK,yaq,yar,yao,yap]
    simp (disch:=first|assumption|omega|(simp;done)|(simp;omega)|(simp only [bt,and_true];first|done|omega|(simp;done))) [↓zmi,beq,ybc,ybd,ybe,ag,wk,wk2,wk1,wkM,wkL,ak,ybf,hcl2]
    first|exact bg ef|exact ⟨by repeat first|exact .refl _|refine .push ?_ _,bg ef⟩
end Go.AL
open Go Go.AL Go.Proofs
namespace Go.AL
set_option linter.all false
set_option maxRecDepth 10000
theorem qB:ti Try.prog 49=some ⟨.slice 9,1,24,.slice .nil 1 []⟩:=by kernel_rfl
theorem p6:ti Try.prog 175=some ⟨.slice 49,1,24,.slice .nil 1 []⟩:=by kernel_rfl
attribute [go_sem] qB p6
/-- a proof that serves several ways into the same place -/
def JnT {α:Type} (F:α→Fr) (G:α→AHeap) (I:α→Prop) (K:Fr→AHeap→Prop):Prop:=∀ x,I x→K (F x) (G x)
theorem uh {α:Type} (F:α→Fr) (G:α→AHeap) (I:α→Prop) {K:Fr→AHeap→Prop} {C:Prop} (h:JnT F G I K→C) (hJ:JnT F G I K):C:=h hJ
theorem qP {F:Nat × AHeap→Fr} {I:Nat × AHeap→Prop} {n0 s id off sz len:Nat} {K:Fr→AHeap→Prop} {fr:Fr} {H:AHeap} (J:JnT F (fun x=>x.2) (fun x=>x.2.Closed∧I x) K) (hs:Fr.get fr s=.ms id off sz len) (hc:H.Closed) (hx:I (id,H)) (hn:n0≤H.nx) (hl:ltF H.nx (F (id,H))) (hw:bd H H (F (id,H)) fr):gV n0 K fr H:=nz _ _ ⟨hn,AHeap.Le.refl _,hc,hl,hw⟩ (J _ ⟨hc,hx⟩)
theorem nl {n0 s id off sz len:Nat} {K:Fr→AHeap→Prop} {fr:Fr} {H:AHeap} {cs:List AV} (cs':List AV) (hs:Fr.get fr s=.ms id off sz len) (hc:am H id=some cs) (h:gX cs cs') (hk:K fr (H.set id (.cells cs'))):gV n0 K fr H:=uX id cs' hc h hk
/-- nothing but one object was changed -/
structure But (id:Nat) (H Hc:AHeap):Prop where
 nx:H.nx≤Hc.nx
 get:∀ j x,j≠id→H.get j=some x→Hc.get j=some x
theorem But.push {id:Nat} {H Hc:AHeap} (h:But id H Hc) (o:AObj):But id H (Hc.push o):=⟨by rw [zky];exact Nat.le_succ_of_le h.nx,fun j x hj hx=>by
 have:=h.get j x hj hx
 rw [AHeap.get_push_lt _ _ (AHeap.get_lt this)];exact this⟩
theorem But.set {id i:Nat} {H Hc:AHeap} (h:But id H Hc) (o:AObj) (hi:i=id∨H.nx≤i):But id H (Hc.set i o):=⟨by rw [zkz];exact h.nx,fun j x hj hx=>by
 have hlt:=AHeap.get_lt hx
 rw [AHeap.get_set_ne _ _ (by rcases hi with rfl|hi<;>omega)]
 exact h.get j x hj hx⟩
theorem But.del {id i:Nat} {H Hc:AHeap} (h:But id H Hc) (hi:H.nx≤i):But id H (Hc.del i):=⟨by rw [eR];exact h.nx,fun j x hj hx=>by
 have hlt:=AHeap.get_lt hx
 rw [gt,if_neg (by omega)]
 exact h.get j x hj hx⟩
theorem But.self {id:Nat} {H:AHeap}:But id H H:=⟨Nat.le_refl _,fun _ _ _ h=>h⟩
theorem But.le {id:Nat} {H Hc:AHeap} {o:AObj} (h:But id H Hc) (hg:Hc.get id=some o):(H.set id o).Le Hc:=wl h.get hg h.nx
theorem mW {H:AHeap} {i j:Nat} {o o':AObj} (h:i≠j):(H.set i o).set j o'=(H.set j o').set i o:=by
 simp only [AHeap.set,AHeap.mk.injEq,true_and]
 funext k
 by_cases h1:k=i
 ·subst h1;simp [h]
 ·simp [h1]
theorem vr {H:AHeap} {i:Nat} {o o':AObj}:(H.set i o).set i o'=H.set i o':=by
 simp only [AHeap.set,AHeap.mk.injEq,true_and]
 funext k
 by_cases h1:k=i<;>simp [h1]
/-- the tables; the first k have their restrictions -/
def sH (b:List UInt8) (v k:Nat):List STable:=(bC b v).take k++((bC b v).drop k).map fun t=>{ t with restr:=[] }
def mN (b:List UInt8) (v k:Nat):List AV:=(sH b v k).flatMap fun t=>(bk t).cells
theorem pE {α:Type} {n:Nat} {f:α→AV} {l:List α} (h:∀ x,AV.lt n (f x)):ltL n (l.flatMap fun x=>(f x).cells):=ltL_iff.2 fun j hj=>by
 obtain ⟨x,_,hx⟩:=List.mem_flatMap.1 (List.getElem_mem hj)
 obtain ⟨k,hk,e⟩:=List.mem_iff_getElem.1 hx
 rw [← e];exact AV.lt_cells (h x) k hk
theorem hG {α:Type} {sz:Nat} (h1:sz≠1) (f:α→List AV) (hf:∀ x,(f x).length=sz):∀ l:List α,aY sz l.length (l.flatMap f)=l.map fun x=>.agg (f x)
 |[]=>rfl
 |x::l=>by
  rw [yaz,List.flatMap_cons,aY,if_neg h1,yae,show (f x++l.flatMap f).drop sz=l.flatMap f by rw [← hf x,List.drop_left],hG h1 f hf l]
  congr 2
  apply List.ext_getElem
  ·simp [hf]
  ·intro j a1 a2
   simp only [List.getElem_map,List.getElem_range]
   rw [List.getD_eq_getElem?_getD,List.getElem?_append_left a2,List.getElem?_eq_getElem a2];rfl
def gP:AV:=.slice .any 1 [.slice .any 1 (gText0.map .str),.slice .any 1 (gText1.map .str),.slice .any 1 (gText2.map .str),.slice .any 1 (gText3.map .str)]
def kD:=eG fun b v=>(.slice .any 8 ((bC b v).map bk),v+12)
theorem qx:EntOk Try.prog 51 (Ent.effect kD):=by
 unfold kD
 refine EntOk.effect fun args H K h=>?_
 unfold eG at h
 split at h
 rotate_left
 ·exact h.elim
 rename_i id
 obtain ⟨b,v,hg,hb,hv,hK⟩:=gr h
 refine ⟨_,_,hK,?_⟩
 clear hK
 refine ACalls.fW aE (TblOk.cons gd (TblOk.cons fU TblOk.nil)) Try.func51 [.tmp 2] (Nat.le_refl _) (T:=ax [(16,[[],[],[],[],[],[],[],[],[],[7],[],[],[5,7,9]]),(11,[[14]]),(13,[[1,1,1]])]) (h:=fun hcl hlt=>?_)
 clear hlt
 have hid:=AHeap.get_lt hg
 have hne:=kG hid
 have hne2:=kG (show id<H.nx+1+1+1+1+1+1+1+1+1+1+1+1+1+1+1+1 by omega)
 have hgc:=h9 (b:=b) hid
 have hcl2:∀ w,(H.set id (cu b w)).Closed:=fun w=>ah hcl fy
 have c3:∀ u,(0≤((cv b u 3:Nat):Int)∧((cv b u 3:Nat):Int)<((3:Nat):Int))=True:=fun u=>xD (by decide)
 have w1:∀ (u n:Nat) (k:Int),0<n→n≤100→0≤k→k≤100→IntKind.i64.wrap (k+((cv b u n:Nat):Int))=k+((cv b u n:Nat):Int):=fun u n k h1 h2 h3 h4=>by
  have:=gT (b:=b) (v:=u) (n:=n) h1
  rw [wrap_i64 (by omega) (by omega)]
 have e2:(2:Int).toNat=2:=rfl
 have e5:(5:Int).toNat=5:=rfl
 have e6:(6:Int).toNat=6:=rfl
 have e3:(3:Int).toNat=3:=rfl
 have a12:∀ u,IntKind.i64.wrap (1+((cv b u 2:Nat):Int))=1+((cv b u 2:Nat):Int):=fun u=>w1 u 2 1 (by decide) (by decide) (by decide) (by decide)
 have a25:∀ u,IntKind.i64.wrap (2+((cv b u 5:Nat):Int))=2+((cv b u 5:Nat):Int):=fun u=>w1 u 5 2 (by decide) (by decide) (by decide) (by decide)
 have a36:∀ u,IntKind.i64.wrap (3+((cv b u 6:Nat):Int))=3+((cv b u 6:Nat):Int):=fun u=>w1 u 6 3 (by decide) (by decide) (by decide) (by decide)
 have a46:∀ u,IntKind.i64.wrap (4+((cv b u 6:Nat):Int))=4+((cv b u 6:Nat):Int):=fun u=>w1 u 6 4 (by decide) (by decide) (by decide) (by decide)
 have a35:∀ u,IntKind.i64.wrap (3+((cv b u 5:Nat):Int))=3+((cv b u 5:Nat):Int):=fun u=>w1 u 5 3 (by decide) (by decide) (by decide) (by decide)
 simp only [go_sem,aR,aL,hg,hgc,aS hb,bf,aH,bu,hne,e2,e3,e5,e6,a12,a25,a36,a46,a35]
 apply uh (α:=Nat × AHeap) (fun x=>[(0,.ptr id 0),(7,.ms x.1 0 8 4),(8,gP)]) (fun x=>x.2) (fun x=>x.2.Closed∧H.nx≤x.1∧x.1<x.2.nx∧But id H x.2∧x.2.get id=some (cu b (cp v 8))∧x.2.get x.1=some (.cells (mN b v 0)))
 ·intro J
  (repeat with_reducible refine And.intro (by first|exact True.intro|decide|omega|(simp [zik,zgl,zgm,zgn,zgp,zgo,zgt];first|done|omega)) ?_)
  refine al (fun h1=>?_) (fun h1=>?_)
  all_goals
   simp only [co,cl,bhq,Nat.reduceMod,Nat.reduceDiv,aW,aX,aZ,bO,a8,bM,bG,bJ,bK,yaq,yar,yao,yap,go_sem,aR,aL,hg,hgc,aS hb,bf,aH,bu,hne,e2,e3,e5,e6,a12,a25,a36,a46,a35]
   (repeat with_reducible refine And.intro (by first|exact True.intro|decide|omega|(simp [zik,zgl,zgm,zgn,zgp,zgo,zgt];first|done|omega)) ?_)
   refine al (fun h2=>?_) (fun h2=>?_)
  all_goals
   simp only [co,cl,bhq,Nat.reduceMod,Nat.reduceDiv,aW,aX,aZ,bO,a8,bM,bG,bJ,bK,yaq,yar,yao,yap,go_sem,aR,aL,hg,hgc,aS hb,bf,aH,bu,hne,e2,e3,e5,e6,a12,a25,a36,a46,a35]
   (repeat with_reducible refine And.intro (by first|exact True.intro|decide|omega|(simp [zik,zgl,zgm,zgn,zgp,zgo,zgt];first|done|omega)) ?_)
   refine al (fun h3=>?_) (fun h3=>?_)
  all_goals
   simp only [co,cl,bhq,Nat.reduceMod,Nat.reduceDiv,aW,aX,aZ,bO,a8,bM,bG,bJ,bK,yaq,yar,yao,yap,go_sem,aR,aL,hg,hgc,aS hb,bf,aH,bu,hne,e2,e3,e5,e6,a12,a25,a36,a46,a35]
   (repeat with_reducible refine And.intro (by first|exact True.intro|decide|omega|(simp [zik,zgl,zgm,zgn,zgp,zgo,zgt];first|done|omega)) ?_)
   refine nl (s:=7) (mN b v 0) rfl (by simp only [go_sem];rfl) ?_ ?_
   ·first|replace h1:=of_decide_eq_true h1|replace h1:=of_decide_eq_false h1
    first|replace h2:=of_decide_eq_true h2|replace h2:=of_decide_eq_false h2
    first|replace h3:=of_decide_eq_true h3|replace h3:=of_decide_eq_false h3
    simp only [cp] at h1 h2 h3
    simp [mN,sH,bC,iG,lj,cX,cZ,bk,bS,inL,vv,h1,h2,h3,cp,AV.cells,fN,di,dk,dT,dj,dW,fF,eX,eT,wkM]
   refine eE 8 gP ?_ ?_
   ·simp [Fr.get,gP,gText0,gText1,gText2,gText3,AV.cells,di,dk,dT,dj,dW,eX,wkM]
   refine qP (s:=7) J rfl ?_ ?_ (by (try simp only [zkp,zkk,lX,zky,zkz]);omega) ?_ ?_
   ·repeat' (first|exact hcl2 _|refine af ?_|refine ah ?_ ?_|refine ae ?_ ?_)
    all_goals first|exact pE fun _=>ce _|(simp [bm,zno,znp,zmz,znb,zna,znl,AV.cells,yal,yak,zky,zkz];try omega)
   ·dsimp only
    refine ⟨by (try simp only [zky,zkz]);omega,by (try simp only [zky,zkz]);omega,?_,?_,?_⟩
    ·repeat (first|exact But.self|refine But.push ?_ _|refine But.set ?_ _ (by first|exact .inl rfl|exact .inr (by (try simp only [zky,zkz]);omega)))
    ·simp only [go_sem,hne,hne2,hgc,cp]
    ·simp only [go_sem]
   ·simp [ltF,znh,znj,gP,gText0,gText1,gText2,gText3,znb,bm,zno,znp,zky,zkz]
    try omega
   ·simp [bd,wk2,wk1,wkM,Fr.get,gP]
 ·rintro ⟨i,Hc⟩ ⟨q3,q1,q2,q4,q5,q6⟩
  dsimp only at q1 q2 q3 q4 q5 q6 ⊢
  have hii:i≠id:=by omega
  have gtx:∀ u x y z,([AV.str x,.str y,.str z]:List AV).getD (cv b u 3) .junk=.str ([x,y,z].getD (cv b u 3) []):=fun u x y z=>by
   have:=gT (b:=b) (v:=u) (n:=3) (by decide)
   rcases (by omega:cv b u 3=0∨cv b u 3=1∨cv b u 3=2) with e|e|e<;>rw [e]<;>rfl
  have hic:id<Hc.nx:=AHeap.get_lt q5
  have hci:∀ C w,am ((Hc.set i (.cells C)).set id (cu b w)) i=some C:=fun C w=>bx (by
   rw [AHeap.get_set_ne _ _ hii,AHeap.get_set_same _ _ q2])
  have hgd:∀ C w,((Hc.set i (.cells C)).set id (cu b w)).get id=some (cu b w):=fun C w=>AHeap.get_set_same _ _ (by rw [zkz];exact hic)
  have hsi:∀ C C' w,((Hc.set i (.cells C)).set id (cu b w)).set i (.cells C')=(Hc.set i (.cells C')).set id (cu b w):=fun C C' w=>by
   rw [← mW hii,vr,mW hii]
  have hsd:∀ C w w',((Hc.set i (.cells C)).set id (cu b w)).set id (cu b w')=(Hc.set i (.cells C)).set id (cu b w'):=fun C w w'=>sT
  have hclo:∀ k w,((Hc.set i (.cells (mN b v k))).set id (cu b w)).Closed:=fun k w=>ah (ah q3 (pE fun _=>ce _)) fy
  simp only [bhq,Nat.reduceMod,Nat.reduceDiv,aW,aX,aZ,bO,a8,bM,bG,bJ,bK,yaq,yar,yao,yap,go_sem]
  refine az (A:=Nat) (fun k=>[(0,.ptr id 0),(7,.ms i 0 8 4),(8,gP),(80,.int .i64 4),(81,.int .i64 (k:Int))]) (fun k=>(Hc.set i (.cells (mN b v k))).set id (cu b (cp v (8+k)))) (fun k=>k≤4) (fun k=>4 - k) 0 (by omega) ?_ fun k hk=>?_
  ·refine ⟨by simp only [zkz,zkk,zkp];have:=q4.nx;omega,?_,hclo _ _,?_,?_⟩
   ·exact ((gG (by rw [AHeap.get_set_ne _ _ (fun e=>hii e.symm)];exact q5)).trans (gG q6))
   ·simp [ltF,znh,znj,zmz,gP,gText0,gText1,gText2,gText3,znb,bm,zno,znp,zkz]
    omega
   ·simp [bd,wk2,wk1,wkM,Fr.get,gP]
  simp only [go_sem]
  refine al (fun hc=>?_) (fun hc=>?_)
  ·have hk4:k<4:=by simp at hc;omega
   have c3':∀ u,(0≤((cv b u 3:Nat):Int)∧((cv b u 3:Nat):Int)<((3:Nat):Int)):=fun u=>of_eq_true (c3 u)
   have e4:IntKind.i64.wrap ((k:Int)+1)=((k+1:Nat):Int):=by rw [wrap_i64]<;>omega
   rcases (by omega:k=0∨k=1∨k=2∨k=3) with rfl|rfl|rfl|rfl
   ·simp only [go_sem,gP,gText0,gText1,gText2,gText3,aR,hgd,hci,hsi,hsd,aS hb,bf,aH,bu,e3,gtx,c3',e4,show IntKind.i64.wrap 1=1 from by decide,Int.toNat_natCast,zoe,mN,sH,bC,List.flatMap_cons,List.flatMap_nil,bk,AV.cells,yal,yak]
    refine ⟨by decide,by decide,by decide,1,by decide,by decide,by simp only [zkz,zkk,zkp];have:=q4.nx;omega,AHeap.Le.refl _,hclo 1 _,?_,?_⟩
    ·simp [ltF,znh,znj,zmz,znb,bm,zno,znp,zkz]
     omega
    ·simp [bd,wk2,wk1,wkM,Fr.get]
   ·simp only [go_sem,gP,gText0,gText1,gText2,gText3,aR,hgd,hci,hsi,hsd,aS hb,bf,aH,bu,e3,gtx,c3',e4,show IntKind.i64.wrap 1=1 from by decide,Int.toNat_natCast,zoe,mN,sH,bC,List.flatMap_cons,List.flatMap_nil,bk,AV.cells,yal,yak]
    refine ⟨by decide,by decide,by decide,2,by decide,by decide,by simp only [zkz,zkk,zkp];have:=q4.nx;omega,AHeap.Le.refl _,hclo 2 _,?_,?_⟩
    ·simp [ltF,znh,znj,zmz,znb,bm,zno,znp,zkz]
     omega
    ·simp [bd,wk2,wk1,wkM,Fr.get]
   ·simp only [go_sem,gP,gText0,gText1,gText2,gText3,aR,hgd,hci,hsi,hsd,aS hb,bf,aH,bu,e3,gtx,c3',e4,show IntKind.i64.wrap 1=1 from by decide,Int.toNat_natCast,zoe,mN,sH,bC,List.flatMap_cons,List.flatMap_nil,bk,AV.cells,yal,yak]
    refine ⟨by decide,by decide,by decide,3,by decide,by decide,by simp only [zkz,zkk,zkp];have:=q4.nx;omega,AHeap.Le.refl _,hclo 3 _,?_,?_⟩
    ·simp [ltF,znh,znj,zmz,znb,bm,zno,znp,zkz]
     omega
    ·simp [bd,wk2,wk1,wkM,Fr.get]
   ·simp only [go_sem,gP,gText0,gText1,gText2,gText3,aR,hgd,hci,hsi,hsd,aS hb,bf,aH,bu,e3,gtx,c3',e4,show IntKind.i64.wrap 1=1 from by decide,Int.toNat_natCast,zoe,mN,sH,bC,List.flatMap_cons,List.flatMap_nil,bk,AV.cells,yal,yak]
    refine ⟨by decide,by decide,by decide,4,by decide,by decide,by simp only [zkz,zkk,zkp];have:=q4.nx;omega,AHeap.Le.refl _,hclo 4 _,?_,?_⟩
    ·simp [ltF,znh,znj,zmz,znb,bm,zno,znp,zkz]
     omega
    ·simp [bd,wk2,wk1,wkM,Fr.get]
  ·have hk4:k=4:=by simp at hc;omega
   subst hk4
   simp only [go_sem]
   have hr:aY 8 4 (mN b v 4)=(bC b v).map bk:=hG (by decide) (fun t=>(bk t).cells) (fun _=>rfl) (bC b v)
   refine ⟨?_,?_,hcl2 _,bg ce⟩
   ·simp only [wk,wk2,wk1,hci,yap,hr,true_or,true_and]
    rw [zmp (by rw [zkz];exact q1)]
   ·exact ((q4.set _ (.inr q1)).set _ (.inl rfl)).le (hgd _ _)
end Go.AL
open Go Go.AL Go.Proofs
namespace Go.AL
set_option linter.all false
set_option maxRecDepth 10000
def jl:=eG fun b v=>(.slice .any 5 ((bN b v).map bw),v+4)
/-- the actions; a restriction where it is set -/
def sr (b:List UInt8) (v:Nat) (r1 r2:Bool):List AV:=((bN b v).map fun a=>(⟨a.id,a.name,a.params,a.body,if a.id=3∧r1=true then [112,111,114,116,32,33,61,32,48] else if a.id=5∧r2=true then [120,32,60,32,121,32,124,124,32,120,32,61,61,32,49,53] else []⟩:SAction)).flatMap fun a=>(bw a).cells
theorem uG {b:List UInt8} {v:Nat}:sr b v (decide (cv b (v+2) 2=1)) (decide (cv b (v+3) 2=1))=(bN b v).flatMap fun a=>(bw a).cells:=by
 by_cases h1:cv b (v+2) 2=1<;>by_cases h2:cv b (v+3) 2=1<;>simp [sr,bN,bw,AV.cells,h1,h2]
theorem qc:EntOk Try.prog 50 (Ent.effect jl):=by
 unfold jl
 refine EntOk.effect fun args H K h=>?_
 unfold eG at h
 split at h
 rotate_left
 ·exact h.elim
 rename_i id
 obtain ⟨b,v,hg,hb,hv,hK⟩:=gr h
 refine ⟨_,_,hK,?_⟩
 clear hK
 dsimp only
 generalize hres:AV.slice .any 5 ((bN b v).map bw)=res
 refine ACalls.fW aE (TblOk.cons gd (TblOk.cons fU TblOk.nil)) Try.func50 [.tmp 2] (Nat.le_refl _) (T:=ax [(2,[[],[],[],[],[],[],[],[],[],[],[],[],[],[],[],[],[],[],[],[],[],[],[],[],[],[],[],[],[],[],[],[],[],[29],[29,33],[],[],[],[29,33],[],[6,12,22,29,33]]),(802,[[100002],[100005],[100008],[100011],[100016],[100020],[100026],[100044]]),(1202,[[40]]),(3,[[1]])]) (h:=fun hcl hlt=>?_)
 clear hlt
 have hid:=AHeap.get_lt hg
 have hne:=kG hid
 have hne2:=kG (show id<H.nx+1+1+1+1+1+1+1+1+1+1+1+1+1+1+1+1 by omega)
 have hgc:=h9 (b:=b) hid
 have hcl2:∀ w,(H.set id (cu b w)).Closed:=fun w=>ah hcl fy
 have e2:(2:Int).toNat=2:=rfl
 have e256:(256:Int).toNat=256:=rfl
 have a22:∀ u,IntKind.i64.wrap (2+((cv b u 2:Nat):Int))=2+((cv b u 2:Nat):Int):=fun u=>by
  have:=gT (b:=b) (v:=u) (n:=2) (by decide)
  rw [wrap_i64 (by omega) (by omega)]
 have u256:∀ u,IntKind.u64.wrap ((cv b u 256:Nat):Int)=((cv b u 256:Nat):Int):=fun u=>by
  have:=gT (b:=b) (v:=u) (n:=256) (by decide)
  rw [qd (by omega) (by omega)]
 simp only [go_sem,aR,aL,hg,hgc,aS hb,bf,aH,bu,hne,hne2,e2,e256,a22,u256]
 (repeat with_reducible refine And.intro (by first|exact True.intro|decide|omega|(simp [zik,zgl,zgm,zgn,zgp,zgo,zgt];first|done|omega)) ?_)
 simp only [co,cl,bhq,Nat.reduceMod,Nat.reduceDiv,aW,aX,aZ,bO,a8,bM,bG,bJ,bK,yaq,yar,yao,yap,go_sem,aR,aL,hg,hgc,aS hb,bf,aH,bu,hne,hne2,e2,e256,a22,u256]
 refine nl (s:=4) (sr b v false false) rfl (by simp only [go_sem];rfl) ?_ ?_
 ·simp [sr,bN,bw,bv,lv,vc,cp,AV.cells,fN,di,dk,dT,dj,dW,fF,eX,eT,wkM]
  have:=gT (b:=b) (v:=v+1) (n:=256) (by decide)
  omega
 simp only [co,cl,bhq,Nat.reduceMod,Nat.reduceDiv,aW,aX,aZ,bO,a8,bM,bG,bJ,bK,yaq,yar,yao,yap,go_sem,aR,aL,hg,hgc,aS hb,bf,aH,bu,hne,hne2,e2,e256,a22,u256]
 refine al (fun h1=>?_) (fun h1=>?_)
 all_goals
  simp only [co,cl,bhq,Nat.reduceMod,Nat.reduceDiv,aW,aX,aZ,bO,a8,bM,bG,bJ,bK,yaq,yar,yao,yap,go_sem,aR,aL,hg,hgc,aS hb,bf,aH,bu,hne,hne2,e2,e256,a22,u256,sr,bN,List.flatMap_cons,List.flatMap_nil,bw,AV.cells,yal,yak]
  (repeat with_reducible refine And.intro (by first|exact True.intro|decide|omega|(simp [zik,zgl,zgm,zgn,zgp,zgo,zgt];first|done|omega)) ?_)
  refine al (fun h2=>?_) (fun h2=>?_)
 all_goals
  try simp only [co,cl,bhq,Nat.reduceMod,Nat.reduceDiv,aW,aX,aZ,bO,a8,bM,bG,bJ,bK,yaq,yar,yao,yap,go_sem,aR,aL,hg,hgc,aS hb,bf,aH,bu,hne,hne2,e2,e256,a22,u256,sr,bN,List.flatMap_cons,List.flatMap_nil,bw,AV.cells,yal,yak]
  (repeat with_reducible refine And.intro (by first|exact True.intro|decide|omega|(simp [zik,zgl,zgm,zgn,zgp,zgo,zgt];first|done|omega)) ?_)
  have hA:=uG (b:=b) (v:=v)
  rw [show decide (cv b (v+2) 2=1)=_ from h1,show decide (cv b (v+3) 2=1)=_ from h2] at hA
  have hr:=hG (sz:=5) (by decide) (fun t=>(bw t).cells) (fun _=>rfl) (bN b v)
  rw [← hA] at hr
  subst hres
  refine ⟨?_,?_,hcl2 _,bg iK⟩
  ·simp only [wk,wk2,wk1,go_sem,yap,true_or,true_and]
   refine ⟨?_,?_⟩
   ·exact hr.symm
   ·rw [zmp (by (try simp only [zkz]);omega)]
  ·refine But.le (id:=id) ?_ ?_
   ·repeat (first|exact But.self|refine But.push ?_ _|refine But.set ?_ _ (by first|exact .inl rfl|exact .inr (by (try simp only [zky,zkz]);omega)))
   ·simp only [go_sem,hne,hne2,hgc,cp]
end Go.AL
