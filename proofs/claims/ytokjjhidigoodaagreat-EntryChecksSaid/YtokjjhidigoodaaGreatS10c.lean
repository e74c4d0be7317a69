/- Lemmas of the proof; no condition. -/
import Derived.Test.YtokjjhidigoodaaGreatS10z
import Derived.Test.YtokjjhidigoodaaGreatLVal
import Derived.Test.YtokjjhidigoodaaGreatLSch2
set_option linter.all false
set_option maxRecDepth 10000
set_option maxHeartbeats 32000000
open List renaming length_cons → yaz, length_nil → yba, take_of_length_le → ybc, drop_append → ybd, take_append → ybe, drop_eq_nil_of_le → ybf, cons_append → yal, nil_append → yak, take_succ_cons → yaq, take_zero → yar, drop_succ_cons → yao, drop_zero → yap, map_cons → yae
open Go Go.AL Go.Proofs
namespace Go.AL
theorem Ld:ti Tryz.prog 3=some ⟨.int .i64,1,8,.int .i64 0⟩:=by kernel_rfl
theorem Fq:ti Tryz.prog 77=some ⟨.struct [(0,3,false),(1,9,false),(2,3,false)],3,32,.agg [.int .i64 0,.str [],.int .i64 0]⟩:=by kernel_rfl
theorem CL:ti Tryz.prog 85=some ⟨.struct [(0,3,false),(1,9,false),(2,56,false)],3,48,.agg [.int .i64 0,.str [],.slice .nil 1 []]⟩:=by kernel_rfl
theorem IC:ti Tryz.prog 168=some ⟨.struct [(0,48,false),(2,48,false),(4,3,false)],5,40,.agg [.int .u64 0,.int .u64 0,.int .u64 0,.int .u64 0,.int .i64 0]⟩:=by kernel_rfl
theorem HH:ti Tryz.prog 145=some ⟨.struct [(0,3,false),(1,3,false),(2,3,false),(3,143,false),(4,3,false)],5,56,.agg [.int .i64 0,.int .i64 0,.int .i64 0,.slice .nil 1 [],.int .i64 0]⟩:=by kernel_rfl
theorem Ke:ti Tryz.prog 172=some ⟨.struct [(0,3,false),(1,3,false),(2,170,false)],6,48,.agg [.int .i64 0,.int .i64 0,.int .i64 0,.int .i64 0,.int .u64 0,.int .u64 0]⟩:=by kernel_rfl
theorem Bv:ti Tryz.prog 170=some ⟨.struct [(0,3,false),(1,3,false),(2,48,false)],4,32,.agg [.int .i64 0,.int .i64 0,.int .u64 0,.int .u64 0]⟩:=by kernel_rfl
theorem GB:ti Tryz.prog 118=some ⟨.struct [(0,9,false),(1,3,false)],2,24,.agg [.str [],.int .i64 0]⟩:=by kernel_rfl
theorem Ef:ti Tryz.prog 103=some ⟨.struct [(0,3,false),(1,9,false),(2,100,false),(3,101,false),(4,9,false)],5,88,.agg [.int .i64 0,.str [],.slice .nil 1 [],.slice .nil 1 [],.str []]⟩:=by kernel_rfl
theorem MH:ti Tryz.prog 64=some ⟨.struct [(0,9,false),(1,3,false),(2,3,false)],3,32,.agg [.str [],.int .i64 0,.int .i64 0]⟩:=by kernel_rfl
theorem HG:ti Tryz.prog 67=some ⟨.struct [(0,3,false),(1,9,false),(2,65,false),(3,56,false),(4,3,false),(5,24,false),(6,3,false),(7,9,false)],8,128,.agg [.int .i64 0,.str [],.slice .nil 1 [],.slice .nil 1 [],.int .i64 0,.slice .nil 1 [],.int .i64 0,.str []]⟩:=by kernel_rfl
theorem GQ:ti Tryz.prog 91=some ⟨.struct [(0,3,false),(1,3,false)],2,16,.agg [.int .i64 0,.int .i64 0]⟩:=by kernel_rfl
theorem G6:ti Tryz.prog 177=some ⟨.struct [(0,3,false),(1,4,false),(2,4,false),(3,175,false)],4,40,.agg [.int .i64 0,.bool false,.bool false,.slice .nil 1 []]⟩:=by kernel_rfl
theorem J5:ti Tryz.prog 80=some ⟨.struct [(0,3,false),(1,9,false),(2,78,false),(3,56,false),(4,3,false),(5,4,false)],6,88,.agg [.int .i64 0,.str [],.slice .nil 1 [],.slice .nil 1 [],.int .i64 0,.bool false]⟩:=by kernel_rfl
theorem LS:ti Tryz.prog 72=some ⟨.struct [(0,3,false),(1,3,false),(2,3,false),(3,3,false),(4,3,false),(5,3,false)],6,48,.agg [.int .i64 0,.int .i64 0,.int .i64 0,.int .i64 0,.int .i64 0,.int .i64 0]⟩:=by kernel_rfl
theorem CF:ti Tryz.prog 36=some ⟨.struct [(0,27,false),(1,28,false),(2,29,false),(3,30,false),(4,31,false),(5,32,false),(6,33,false),(7,34,false),(8,3,false),(9,3,false)],10,208,.agg [.slice .nil 1 [],.slice .nil 1 [],.slice .nil 1 [],.slice .nil 1 [],.slice .nil 1 [],.slice .nil 1 [],.slice .nil 1 [],.slice .nil 1 [],.int .i64 0,.int .i64 0]⟩:=by kernel_rfl
theorem tJ:ti Tryz.prog 114=some ⟨.struct [(0,4,false),(1,48,false),(3,48,false),(5,3,false),(6,48,false)],8,64,.agg [.bool false,.int .u64 0,.int .u64 0,.int .u64 0,.int .u64 0,.int .i64 0,.int .u64 0,.int .u64 0]⟩:=by kernel_rfl
theorem F2:ti Tryz.prog 26=some ⟨.struct [(0,3,false),(1,23,false),(2,3,false),(3,3,false),(4,24,false)],5,72,.agg [.int .i64 0,.slice .nil 1 [],.int .i64 0,.int .i64 0,.slice .nil 1 []]⟩:=by kernel_rfl
theorem GG:ti Tryz.prog 27=some ⟨.slice 77,1,24,.slice .nil 1 []⟩:=by kernel_rfl
theorem DI:ti Tryz.prog 28=some ⟨.slice 85,1,24,.slice .nil 1 []⟩:=by kernel_rfl
theorem JL:ti Tryz.prog 143=some ⟨.slice 168,1,24,.slice .nil 1 []⟩:=by kernel_rfl
theorem F6:ti Tryz.prog 29=some ⟨.slice 145,1,24,.slice .nil 1 []⟩:=by kernel_rfl
theorem IU:ti Tryz.prog 101=some ⟨.slice 172,1,24,.slice .nil 1 []⟩:=by kernel_rfl
theorem FR:ti Tryz.prog 100=some ⟨.slice 118,1,24,.slice .nil 1 []⟩:=by kernel_rfl
theorem DH:ti Tryz.prog 30=some ⟨.slice 103,1,24,.slice .nil 1 []⟩:=by kernel_rfl
theorem MR:ti Tryz.prog 65=some ⟨.slice 64,1,24,.slice .nil 1 []⟩:=by kernel_rfl
theorem FQ:ti Tryz.prog 31=some ⟨.slice 67,1,24,.slice .nil 1 []⟩:=by kernel_rfl
theorem GL:ti Tryz.prog 32=some ⟨.slice 91,1,24,.slice .nil 1 []⟩:=by kernel_rfl
theorem GD:ti Tryz.prog 78=some ⟨.slice 177,1,24,.slice .nil 1 []⟩:=by kernel_rfl
theorem Jc:ti Tryz.prog 33=some ⟨.slice 80,1,24,.slice .nil 1 []⟩:=by kernel_rfl
theorem ME:ti Tryz.prog 34=some ⟨.slice 72,1,24,.slice .nil 1 []⟩:=by kernel_rfl
theorem Fu:ti Tryz.prog 23=some ⟨.slice 114,1,24,.slice .nil 1 []⟩:=by kernel_rfl
theorem GS:ti Tryz.prog 40=some ⟨.slice 26,1,24,.slice .nil 1 []⟩:=by kernel_rfl
theorem My:ti Tryz.prog 24=some ⟨.slice 48,1,24,.slice .nil 1 []⟩:=by kernel_rfl
theorem Lj:ti Tryz.prog 56=some ⟨.slice 3,1,24,.slice .nil 1 []⟩:=by kernel_rfl
theorem J1:ti Tryz.prog 175=some ⟨.slice 4,1,24,.slice .nil 1 []⟩:=by kernel_rfl
attribute [go_sem] Ld Fq CL IC HH Ke Bv GB Ef MH HG GQ G6 J5 LS CF tJ F2 GG DI JL F6 IU FR DH MR FQ GL GD Jc ME Fu GS My Lj J1
def cd:List AV→AHeap→(AEnd→AHeap→Prop)→Prop
 |[.ptr id 0],H,K=>onC (H.get id) fun b v=>K (.ret (.bool (decide (cv b v 2=1)))) (H.set id (dZ b (v+1)))
 |_,_,_=>False
theorem m7:EntOk Tryz.prog 52 (Ent.effect cd):=by
 refine EntOk.effect fun args H K h=>?_
 unfold cd at h
 split at h
 rotate_left
 ·exact h.elim
 rename_i id
 obtain ⟨b,v,hg,hb,hv,hK⟩:=kQ h
 refine ⟨_,_,hK,?_⟩
 clear hK
 refine ACalls.fW ax (tCq ke tNq) Tryz.func52 [.tmp 2] (nrq _) (T:=av []) (h:=fun hcl hlt=>?_)
 clear hlt
 have hid:=glq hg
 have hcl2:(H.set id (dZ b (v+1))).Closed:=ai hcl ji
 have e2:(2:Int).toNat=2:=rfl
 simp only [go_sem,bB,hg,bu hb,cp,e2,Nat.add_zero,Nat.min_eq_left hv]
 have e:((((cv b v 2:Nat):Int))==1)=decide (cv b v 2=1):=by rw [Bool.eq_iff_iff];simp;omega
 refine ⟨⟨by decide,by decide⟩,?_⟩
 rw [e]
 exact Z25
theorem qk {id n:Nat} (h:id<n):((id=n)=False)∧((id=n+1)=False)∧((id=n+1+1)=False)∧((id=n+1+1+1)=False)∧((id=n+1+1+1+1)=False)∧((id=n+1+1+1+1+1)=False)∧((id=n+1+1+1+1+1+1)=False)∧((id=n+1+1+1+1+1+1+1)=False)∧((id=n+1+1+1+1+1+1+1+1)=False)∧((id=n+1+1+1+1+1+1+1+1+1)=False)∧((id=n+1+1+1+1+1+1+1+1+1+1)=False)∧((id=n+1+1+1+1+1+1+1+1+1+1+1)=False)∧((id=n+1+1+1+1+1+1+1+1+1+1+1+1)=False)∧((id=n+1+1+1+1+1+1+1+1+1+1+1+1+1)=False)∧((id=n+1+1+1+1+1+1+1+1+1+1+1+1+1+1)=False)∧((id=n+1+1+1+1+1+1+1+1+1+1+1+1+1+1+1)=False) :=
 ⟨eq_false (by omega),eq_false (by omega),eq_false (by omega),eq_false (by omega),eq_false (by omega),eq_false (by omega),eq_false (by omega),eq_false (by omega),eq_false (by omega),eq_false (by omega),eq_false (by omega),eq_false (by omega),eq_false (by omega),eq_false (by omega),eq_false (by omega),eq_false (by omega)⟩
theorem li {H:AHeap} {id:Nat} (h:id<H.nx) (b:List UInt8) (v:Nat):(H.set id (dZ b v)).get id=some (dZ b v):=AHeap.get_set_same _ _ h
theorem jL {b:List UInt8} {v:Nat}:([AV.int .i64 0,.int .i64 0,.int .i64 65535,.int .i64 3].getD (cv b v 4) .junk)=.int .i64 (nP (cv b v 4)):=by
 have h:=eR (b:=b) (v:=v) (n:=4) (by decide)
 unfold nP
 generalize cv b v 4=c at *
 match c,h with
 |0,_=>rfl
 |1,_=>rfl
 |2,_=>rfl
 |3,_=>rfl
theorem bw {α:Type} {n sz:Nat} {f:α→AV} {l:List α} (h:∀ x,AV.lt n (f x)):AV.lt n (.slice .any sz (l.map f)):=yL fun x hx=>by
 obtain ⟨y,_,rfl⟩:=List.mem_map.1 hx
 exact h y
theorem jJ {n v:Nat} {l:List AV}:ltL n (vc v++l)=ltL n l:=by simp [vc,znq,znb]
theorem ij {n v:Nat}:ltL n (vc v)=True:=by simp [vc,znq,znr,znb]
theorem mv {n:Nat} {l:List Int}:AV.lt n (.slice .any 1 (inL l)):=bw fun x=>by simp only [znb]
theorem IO {n:Nat} {l:List Bool}:AV.lt n (.slice .any 1 (boL l)):=bw fun x=>by simp only [znc]
theorem qV {n:Nat} {l:List Nat}:AV.lt n (.slice .any 2 (l.map vv)):=bw fun x=>by simp only [vv,znn,znq,znr,znb,and_true]
theorem ls {n:Nat} (x:SField):AV.lt n (bX x):=by
 simp only [bX,znn,znq,znr,znb,znd,znc,jJ,ij,List.append_assoc,yal,yak,true_and,and_true]
theorem mO {n:Nat} (x:SHeader):AV.lt n (dX x):=by
 simp only [dX,znn,znq,znr,znb,znd,znc,jJ,ij,List.append_assoc,yal,yak,true_and,and_true]
 exact mv
theorem L7 {n:Nat} (x:SCase):AV.lt n (qH x):=by
 simp only [qH,znn,znq,znr,znb,znd,znc,jJ,ij,List.append_assoc,yal,yak,true_and,and_true]
theorem fU {n:Nat} (x:SState):AV.lt n (cS x):=by
 simp only [cS,znn,znq,znr,znb,znd,znc,jJ,ij,List.append_assoc,yal,yak,true_and,and_true]
 exact bw L7
theorem Lc {n:Nat} (x:SPrim):AV.lt n (za x):=by
 simp only [za,znn,znq,znr,znb,znd,znc,jJ,ij,List.append_assoc,yal,yak,true_and,and_true]
theorem je {n:Nat} (x:SParam):AV.lt n (bS x):=by
 simp only [bS,znn,znq,znr,znb,znd,znc,jJ,ij,List.append_assoc,yal,yak,true_and,and_true]
theorem ip {n:Nat} (x:SAction):AV.lt n (a8 x):=by
 simp only [a8,znn,znq,znr,znb,znd,znc,jJ,ij,List.append_assoc,yal,yak,true_and,and_true]
 exact ⟨bw je,bw Lc⟩
theorem vr {n:Nat} (x:SKey):AV.lt n (bL x):=by
 simp only [bL,znn,znq,znr,znb,znd,znc,jJ,ij,List.append_assoc,yal,yak,true_and,and_true]
theorem cZ {n:Nat} (x:STable):AV.lt n (aV x):=by
 simp only [aV,znn,znq,znr,znb,znd,znc,jJ,ij,List.append_assoc,yal,yak,true_and,and_true]
 exact ⟨bw vr,mv,qV⟩
theorem II {n:Nat} (x:SStage):AV.lt n (jn x):=by
 simp only [jn,znn,znq,znr,znb,znd,znc,jJ,ij,List.append_assoc,yal,yak,true_and,and_true]
theorem rN {n:Nat} (x:SGrant):AV.lt n (ep x):=by
 simp only [ep,znn,znq,znr,znb,znd,znc,jJ,ij,List.append_assoc,yal,yak,true_and,and_true]
 exact IO
theorem pI {n:Nat} (x:SRole):AV.lt n (fp x):=by
 simp only [fp,znn,znq,znr,znb,znd,znc,jJ,ij,List.append_assoc,yal,yak,true_and,and_true]
 exact ⟨bw rN,mv⟩
theorem NK {n:Nat} (x:SRef):AV.lt n (ph x):=by
 simp only [ph,znn,znq,znr,znb,znd,znc,jJ,ij,List.append_assoc,yal,yak,true_and,and_true]
theorem tf {n:Nat} (x:Sch):AV.lt n (rT x):=by
 simp only [rT,bv,znn,znq,znr,znb,true_and,and_true]
 exact ⟨bw ls,bw mO,bw fU,bw ip,bw cZ,bw II,bw pI,bw NK⟩
theorem JI {b:List UInt8} {u n:Nat} (h:0<n):(0≤((cv b u n:Nat):Int)∧((cv b u n:Nat):Int)<(n:Int))=True:=eq_true ⟨by omega,by have:=eR (b:=b) (v:=u) h;omega⟩
def eG (g:List UInt8→Nat→AV × Nat):List AV→AHeap→(AEnd→AHeap→Prop)→Prop
 |[.ptr id 0],H,K=>onC (H.get id) fun b v=>K (.ret (g b v).1) (H.set id (dZ b (g b v).2))
 |_,_,_=>False
def tx:=eG fun b v=>(.slice .any 5 ((cr b v).1.map cS),(cr b v).2)
theorem Df:EntOk Tryz.prog 48 (Ent.effect tx):=by
 unfold tx
 refine EntOk.effect fun args H K h=>?_
 unfold eG at h
 split at h
 rotate_left
 ·exact h.elim
 rename_i id
 obtain ⟨b,v,hg,hb,hv,hK⟩:=kQ h
 refine ⟨_,_,hK,?_⟩
 clear hK
 refine ACalls.fW ax (tCq ke (tCq m7 tNq)) Tryz.func48 [.tmp 2] (nrq _) (T:=av [(5,[[],[],[],[],[],[3],[],[],[],[],[3],[],[3,10],[],[3,10,12],[1,3,10,12],[],[1,3,10,12]]),(10,[[16]])]) (h:=fun hcl hlt=>?_)
 clear hlt
 have hid:=glq hg
 have hne:=qk hid
 have hgc:=li (b:=b) hid
 have hcl2:∀ w,(H.set id (dZ b w)).Closed:=fun w=>ai hcl ji
 have c4:∀ u,(0≤((cv b u 4:Nat):Int)∧((cv b u 4:Nat):Int)<((4:Nat):Int))=True:=fun u=>JI (by decide)
 simp only [go_sem,bB,cd,hg,hgc,bu hb,bQ,bh,bW,hne,jL,c4,iNq]
 have w8:∀ u,IntKind.u64.wrap (IntKind.i64.wrap (8*((cv b u 2:Nat):Int)))=((8*cv b u 2:Nat):Int):=fun u=>by
  have:=eR (b:=b) (v:=u) (n:=2) (by decide)
  rw [wrap_i64 (by omega) (by omega),cV (by omega) (by omega)];omega
 have w1:∀ u,IntKind.i64.wrap (1+((cv b u 3:Nat):Int))=1+((cv b u 3:Nat):Int):=fun u=>by
  have:=eR (b:=b) (v:=u) (n:=3) (by decide)
  exact Y118
 have hvs:∀ u,vc (8*cv b u 2)=[.int .u64 0,.int .u64 ((8*cv b u 2:Nat):Int)]:=fun u=>iB (by
  have:=eR (b:=b) (v:=u) (n:=2) (by decide)
  omega)
 refine ⟨by decide,au (fun h1=>?_) (fun h1=>?_)⟩
 ·have h1':cv b (v+1) 2=1:=of_decide_eq_true h1
  simp only [bp,aM,bhq,Nat.reduceMod,Nat.reduceDiv,aD,aE,aF,bf,aG,bc,aZ,bb,a9,yaq,yar,yao,yap,go_sem,bB,cd,hg,hgc,bu hb,bQ,bh,bW,hne,jL,c4,w8,w1,iNq]
  refine ⟨by decide,by decide,⟨by simp [zim,zgm,zgn,zgo],by decide,by decide,au (fun h2=>?_) (fun h2=>?_)⟩⟩
  ·have h2':cv b (v+5) 3=1:=by simp [cp] at h2;omega
   simp only [bp,aM,bhq,Nat.reduceMod,Nat.reduceDiv,aD,aE,aF,bf,aG,bc,aZ,bb,a9,yaq,yar,yao,yap,go_sem,bB,cd,hg,hgc,bu hb,bQ,bh,bW,hne,jL,c4,w8,w1,iNq]
   refine ⟨by decide,?_⟩
   refine im 2 (.slice .any 5 ((cr b v).1.map cS)) ?_ ?_
   ·exact Z26
   ·have e:(cr b v).2=cp v 7:=by unfold cr;simp only [h1',h2',if_true,if_false];rfl
    exact Y20
  ·have h2':¬ cv b (v+5) 3=1:=by simp [cp] at h2;omega
   simp only [bp,aM,bhq,Nat.reduceMod,Nat.reduceDiv,aD,aE,aF,bf,aG,bc,aZ,bb,a9,yaq,yar,yao,yap,go_sem,bB,cd,hg,hgc,bu hb,bQ,bh,bW,hne,jL,c4,w8,w1,iNq]
   refine im 2 (.slice .any 5 ((cr b v).1.map cS)) ?_ ?_
   ·exact Z26
   ·have e:(cr b v).2=cp v 6:=by unfold cr;simp only [h1',h2',if_true,if_false];rfl
    exact Y20
 ·have h1':¬ cv b (v+1) 2=1:=of_decide_eq_false h1
  simp only [bp,aM,bhq,Nat.reduceMod,Nat.reduceDiv,aD,aE,aF,bf,aG,bc,aZ,bb,a9,yaq,yar,yao,yap,go_sem,bB,cd,hg,hgc,bu hb,bQ,bh,bW,hne,jL,c4,w8,w1,iNq]
  refine ⟨by decide,by decide,au (fun h2=>?_) (fun h2=>?_)⟩
  ·have h2':cv b (v+3) 3=1:=by simp [cp] at h2;omega
   simp only [bp,aM,bhq,Nat.reduceMod,Nat.reduceDiv,aD,aE,aF,bf,aG,bc,aZ,bb,a9,yaq,yar,yao,yap,go_sem,bB,cd,hg,hgc,bu hb,bQ,bh,bW,hne,jL,c4,w8,w1,iNq]
   refine ⟨by decide,?_⟩
   refine im 2 (.slice .any 5 ((cr b v).1.map cS)) ?_ ?_
   ·exact Z26
   ·have e:(cr b v).2=cp v 5:=by unfold cr;simp only [h1',h2',if_true,if_false];rfl
    exact Y20
  ·have h2':¬ cv b (v+3) 3=1:=by simp [cp] at h2;omega
   simp only [bp,aM,bhq,Nat.reduceMod,Nat.reduceDiv,aD,aE,aF,bf,aG,bc,aZ,bb,a9,yaq,yar,yao,yap,go_sem,bB,cd,hg,hgc,bu hb,bQ,bh,bW,hne,jL,c4,w8,w1,iNq]
   refine im 2 (.slice .any 5 ((cr b v).1.map cS)) ?_ ?_
   ·exact Z26
   ·have e:(cr b v).2=cp v 4:=by unfold cr;simp only [h1',h2',if_true,if_false];rfl
    exact Y20
theorem D6:ti Tryz.prog 173=some ⟨.slice 9,1,24,.slice .nil 1 []⟩:=by kernel_rfl
theorem AS:ti Tryz.prog 174=some ⟨.slice 173,1,24,.slice .nil 1 []⟩:=by kernel_rfl
attribute [go_sem] D6 AS
def JnT {α:Type} (F:α→Fr) (G:α→AHeap) (I:α→Prop) (K:Fr→AHeap→Prop):Prop:=∀ x,I x→K (F x) (G x)
theorem lk {α:Type} (F:α→Fr) (G:α→AHeap) (I:α→Prop) {K:Fr→AHeap→Prop} {C:Prop} (h:JnT F G I K→C) (hJ:JnT F G I K):C:=h hJ
theorem fw {α:Type} {F:α→Fr} {G:α→AHeap} {I:α→Prop} {n0:Nat} {K:Fr→AHeap→Prop} {fr:Fr} {H:AHeap} (J:JnT F G I K) (x:α) (hx:I x) (he:enterW n0 fr H (F x) (G x)):ln n0 K fr H:=tV _ _ he (J x hx)
theorem DR {F:Nat × AHeap→Fr} {I:Nat × AHeap→Prop} {n0 s id off sz len:Nat} {K:Fr→AHeap→Prop} {fr:Fr} {H:AHeap} (J:JnT F (fun x=>x.2) (fun x=>x.2.Closed∧I x) K) (hs:Fr.get fr s=.ms id off sz len) (hc:H.Closed) (hx:I (id,H)) (hn:n0≤H.nx) (hl:ltF H.nx (F (id,H))) (hw:aK H H (F (id,H)) fr):ln n0 K fr H:=tV _ _ ⟨hn,lRq _,hc,hl,hw⟩ (J _ ⟨hc,hx⟩)
theorem xS {n0 s id off sz len:Nat} {K:Fr→AHeap→Prop} {fr:Fr} {H:AHeap} {cs:List AV} (cs':List AV) (hs:Fr.get fr s=.ms id off sz len) (hc:aR H id=some cs) (h:nX cs cs') (hk:K fr (H.set id (.cells cs'))):ln n0 K fr H:=fO id cs' hc h hk
structure But (id:Nat) (H Hc:AHeap):Prop where
 nx:H.nx≤Hc.nx
 get:∀ j x,j≠id→H.get j=some x→Hc.get j=some x
theorem But.push {id:Nat} {H Hc:AHeap} (h:But id H Hc) (o:AObj):But id H (Hc.push o):=⟨by rw [zla];exact Nat.le_succ_of_le h.nx,fun j x hj hx=>by
 have:=h.get j x hj hx
 rw [gPq _ _ (glq this)];exact this⟩
theorem But.set {id i:Nat} {H Hc:AHeap} (h:But id H Hc) (o:AObj) (hi:i=id∨H.nx≤i):But id H (Hc.set i o):=⟨by rw [zlb];exact h.nx,fun j x hj hx=>by
 have hlt:=glq hx
 rw [AHeap.get_set_ne _ _ (by rcases hi with rfl|hi<;>omega)]
 exact h.get j x hj hx⟩
theorem But.del {id i:Nat} {H Hc:AHeap} (h:But id H Hc) (hi:H.nx≤i):But id H (Hc.del i):=⟨by rw [kc];exact h.nx,fun j x hj hx=>by
 have hlt:=glq hx
 rw [np,if_neg (by omega)]
 exact h.get j x hj hx⟩
theorem But.self {id:Nat} {H:AHeap}:But id H H:=⟨nrq _,fun _ _ _ h=>h⟩
theorem But.le {id:Nat} {H Hc:AHeap} {o:AObj} (h:But id H Hc) (hg:Hc.get id=some o):(H.set id o).Le Hc:=Mk h.get hg h.nx
theorem yc {H:AHeap} {i j:Nat} {o o':AObj} (h:i≠j):(H.set i o).set j o'=(H.set j o').set i o:=by
 simp only [AHeap.set,AHeap.mk.injEq,true_and]
 funext k
 by_cases h1:k=i
 ·subst h1;simp [h]
 ·simp [h1]
theorem KO {H:AHeap} {i:Nat} {o o':AObj}:(H.set i o).set i o'=H.set i o':=by
 simp only [AHeap.set,AHeap.mk.injEq,true_and]
 funext k
 by_cases h1:k=i<;>simp [h1]
def Ge (b:List UInt8) (v k:Nat):List STable:=(cK b v).take k++((cK b v).drop k).map fun t=>{ t with restr:=[] }
def xv (b:List UInt8) (v k:Nat):List AV:=(Ge b v k).flatMap fun t=>(aV t).cells
theorem Ci {α:Type} {n:Nat} {f:α→AV} {l:List α} (h:∀ x,AV.lt n (f x)):ltL n (l.flatMap fun x=>(f x).cells):=ltL_iff.2 fun j hj=>by
 obtain ⟨x,_,hx⟩:=List.mem_flatMap.1 (gMq hj)
 obtain ⟨k,hk,e⟩:=List.mem_iff_getElem.1 hx
 rw [← e];exact AV.lt_cells (h x) k hk
theorem nY {α:Type} {sz:Nat} (h1:sz≠1) (f:α→List AV) (hf:∀ x,(f x).length=sz):∀ l:List α,ce sz l.length (l.flatMap f)=l.map fun x=>.agg (f x)
 |[]=>rfl
 |x::l=>by
  rw [yaz,List.flatMap_cons,ce,if_neg h1,yae,show (f x++l.flatMap f).drop sz=l.flatMap f by rw [← hf x,List.drop_left],nY h1 f hf l]
  congr 2
  apply List.ext_getElem
  ·simp [hf]
  ·intro j a1 a2
   simp only [List.getElem_map,List.getElem_range]
   rw [gEq,List.getElem?_append_left a2,gQq a2];rfl
def nU:AV:=.slice .any 1 [.slice .any 1 (gText0.map .str),.slice .any 1 (gText1.map .str),.slice .any 1 (gText2.map .str),.slice .any 1 (gText3.map .str)]
def tS:=eG fun b v=>(.slice .any 8 ((cK b v).map aV),v+12)
theorem CO:EntOk Tryz.prog 50 (Ent.effect tS):=by
 unfold tS
 refine EntOk.effect fun args H K h=>?_
 unfold eG at h
 split at h
 rotate_left
 ·exact h.elim
 rename_i id
 obtain ⟨b,v,hg,hb,hv,hK⟩:=kQ h
 refine ⟨_,_,hK,?_⟩
 clear hK
 refine ACalls.fW ax (tCq ke (tCq m7 tNq)) Tryz.func50 [.tmp 2] (nrq _) (T:=av [(16,[[],[],[],[],[],[],[],[],[],[7],[],[],[5,7,9]]),(11,[[14]]),(13,[[1,1,1]])]) (h:=fun hcl hlt=>?_)
 clear hlt
 have hid:=glq hg
 have hne:=qk hid
 have hne2:=qk (show id<H.nx+1+1+1+1+1+1+1+1+1+1+1+1+1+1+1+1 by omega)
 have hgc:=li (b:=b) hid
 have hcl2:∀ w,(H.set id (dZ b w)).Closed:=fun w=>ai hcl ji
 have c3:∀ u,(0≤((cv b u 3:Nat):Int)∧((cv b u 3:Nat):Int)<((3:Nat):Int))=True:=fun u=>JI (by decide)
 have w1:∀ (u n:Nat) (k:Int),0<n→n≤100→0≤k→k≤100→IntKind.i64.wrap (k+((cv b u n:Nat):Int))=k+((cv b u n:Nat):Int):=fun u n k h1 h2 h3 h4=>by
  have:=eR (b:=b) (v:=u) (n:=n) h1
  exact Y118
 have e2:(2:Int).toNat=2:=rfl
 have e5:(5:Int).toNat=5:=rfl
 have e6:(6:Int).toNat=6:=rfl
 have e3:(3:Int).toNat=3:=rfl
 have a12:∀ u,IntKind.i64.wrap (1+((cv b u 2:Nat):Int))=1+((cv b u 2:Nat):Int):=fun u=>w1 u 2 1 (by decide) (by decide) (by decide) (by decide)
 have a25:∀ u,IntKind.i64.wrap (2+((cv b u 5:Nat):Int))=2+((cv b u 5:Nat):Int):=fun u=>w1 u 5 2 (by decide) (by decide) (by decide) (by decide)
 have a36:∀ u,IntKind.i64.wrap (3+((cv b u 6:Nat):Int))=3+((cv b u 6:Nat):Int):=fun u=>w1 u 6 3 (by decide) (by decide) (by decide) (by decide)
 have a46:∀ u,IntKind.i64.wrap (4+((cv b u 6:Nat):Int))=4+((cv b u 6:Nat):Int):=fun u=>w1 u 6 4 (by decide) (by decide) (by decide) (by decide)
 have a35:∀ u,IntKind.i64.wrap (3+((cv b u 5:Nat):Int))=3+((cv b u 5:Nat):Int):=fun u=>w1 u 5 3 (by decide) (by decide) (by decide) (by decide)
 simp only [go_sem,bB,cd,hg,hgc,bu hb,bQ,bh,bW,hne,e2,e3,e5,e6,a12,a25,a36,a46,a35]
 apply lk (α:=Nat × AHeap) (fun x=>[(0,.ptr id 0),(7,.ms x.1 0 8 4),(8,nU)]) (fun x=>x.2) (fun x=>x.2.Closed∧H.nx≤x.1∧x.1<x.2.nx∧But id H x.2∧x.2.get id=some (dZ b (cp v 8))∧x.2.get x.1=some (.cells (xv b v 0)))
 ·intro J
  (repeat with_reducible refine Yq ?_)
  refine au (fun h1=>?_) (fun h1=>?_)
  all_goals
   simp only [bp,aM,bhq,Nat.reduceMod,Nat.reduceDiv,aD,aE,aF,bf,aG,bc,aZ,bb,a9,yaq,yar,yao,yap,go_sem,bB,cd,hg,hgc,bu hb,bQ,bh,bW,hne,e2,e3,e5,e6,a12,a25,a36,a46,a35]
   (repeat with_reducible refine Yq ?_)
   refine au (fun h2=>?_) (fun h2=>?_)
  all_goals
   simp only [bp,aM,bhq,Nat.reduceMod,Nat.reduceDiv,aD,aE,aF,bf,aG,bc,aZ,bb,a9,yaq,yar,yao,yap,go_sem,bB,cd,hg,hgc,bu hb,bQ,bh,bW,hne,e2,e3,e5,e6,a12,a25,a36,a46,a35]
   (repeat with_reducible refine Yq ?_)
   refine au (fun h3=>?_) (fun h3=>?_)
  all_goals
   simp only [bp,aM,bhq,Nat.reduceMod,Nat.reduceDiv,aD,aE,aF,bf,aG,bc,aZ,bb,a9,yaq,yar,yao,yap,go_sem,bB,cd,hg,hgc,bu hb,bQ,bh,bW,hne,e2,e3,e5,e6,a12,a25,a36,a46,a35]
   (repeat with_reducible refine Yq ?_)
   refine xS (s:=7) (xv b v 0) rfl (by simp only [go_sem];rfl) ?_ ?_
   ·first|replace h1:=of_decide_eq_true h1|replace h1:=of_decide_eq_false h1
    first|replace h2:=of_decide_eq_true h2|replace h2:=of_decide_eq_false h2
    first|replace h3:=of_decide_eq_true h3|replace h3:=of_decide_eq_false h3
    simp only [cp] at h1 h2 h3
    simp [xv,Ge,cK,jZ,mh,fk,fj,aV,bL,inL,vv,h1,h2,h3,cp,AV.cells,j6,cw,cx,cQ,fu,cP,jg,kM,jk,wkM]
   refine im 8 nU ?_ ?_
   ·simp [Fr.get,nU,gText0,gText1,gText2,gText3,AV.cells,cw,cx,cQ,fu,cP,kM,wkM]
   refine DR (s:=7) J rfl ?_ ?_ (by (try simp only [zkr,zkm,iC,zla,zlb]);omega) ?_ ?_
   ·repeat' (first|exact hcl2 _|refine ag ?_|refine ai ?_ ?_|refine ae ?_ ?_)
    all_goals first|exact Ci fun _=>cZ _|(simp [aS,znq,znr,znb,znd,znc,znn,AV.cells,yal,yak,zla,zlb];try omega)
   ·dsimp only
    refine ⟨by (try simp only [zla,zlb]);omega,by (try simp only [zla,zlb]);omega,?_,?_,?_⟩
    ·repeat (first|exact But.self|refine But.push ?_ _|refine But.set ?_ _ (by first|exact .inl rfl|exact .inr (by (try simp only [zla,zlb]);omega)))
    ·simp only [go_sem,hne,hne2,hgc,cp]
    ·simp only [go_sem]
   ·simp [ltF,znj,znl,nU,gText0,gText1,gText2,gText3,znd,aS,znq,znr,zla,zlb]
    try omega
   ·simp [aK,wk2,wk1,wkM,Fr.get,nU]
 ·rintro ⟨i,Hc⟩ ⟨q3,q1,q2,q4,q5,q6⟩
  dsimp only at q1 q2 q3 q4 q5 q6 ⊢
  have hii:i≠id:=by omega
  have gtx:∀ u x y z,([AV.str x,.str y,.str z]:List AV).getD (cv b u 3) .junk=.str ([x,y,z].getD (cv b u 3) []):=fun u x y z=>by
   have:=eR (b:=b) (v:=u) (n:=3) (by decide)
   rcases (by omega:cv b u 3=0∨cv b u 3=1∨cv b u 3=2) with e|e|e<;>rw [e]<;>rfl
  have hic:id<Hc.nx:=glq q5
  have hci:∀ C w,aR ((Hc.set i (.cells C)).set id (dZ b w)) i=some C:=fun C w=>ay (by
   rw [AHeap.get_set_ne _ _ hii,AHeap.get_set_same _ _ q2])
  have hgd:∀ C w,((Hc.set i (.cells C)).set id (dZ b w)).get id=some (dZ b w):=fun C w=>AHeap.get_set_same _ _ (by rw [zlb];exact hic)
  have hsi:∀ C C' w,((Hc.set i (.cells C)).set id (dZ b w)).set i (.cells C')=(Hc.set i (.cells C')).set id (dZ b w):=fun C C' w=>by
   rw [← yc hii,KO,yc hii]
  have hsd:∀ C w w',((Hc.set i (.cells C)).set id (dZ b w)).set id (dZ b w')=(Hc.set i (.cells C)).set id (dZ b w'):=fun C w w'=>FY
  have hclo:∀ k w,((Hc.set i (.cells (xv b v k))).set id (dZ b w)).Closed:=fun k w=>ai (ai q3 (Ci fun _=>cZ _)) ji
  simp only [bhq,Nat.reduceMod,Nat.reduceDiv,aD,aE,aF,bf,aG,bc,aZ,bb,a9,yaq,yar,yao,yap,go_sem]
  refine az (A:=Nat) (fun k=>[(0,.ptr id 0),(7,.ms i 0 8 4),(8,nU),(80,.int .i64 4),(81,.int .i64 (k:Int))]) (fun k=>(Hc.set i (.cells (xv b v k))).set id (dZ b (cp v (8+k)))) (fun k=>k≤4) (fun k=>4 - k) 0 (by omega) ?_ fun k hk=>?_
  ·refine ⟨by simp only [zlb,zkm,zkr];have:=q4.nx;omega,?_,hclo _ _,?_,?_⟩
   ·exact ((nk (by rw [AHeap.get_set_ne _ _ (fun e=>hii e.symm)];exact q5)).trans (nk q6))
   ·simp [ltF,znj,znl,znb,nU,gText0,gText1,gText2,gText3,znd,aS,znq,znr,zlb]
    omega
   ·simp [aK,wk2,wk1,wkM,Fr.get,nU]
  simp only [go_sem]
  refine au (fun hc=>?_) (fun hc=>?_)
  ·have hk4:k<4:=by simp at hc;omega
   have c3':∀ u,(0≤((cv b u 3:Nat):Int)∧((cv b u 3:Nat):Int)<((3:Nat):Int)):=fun u=>of_eq_true (c3 u)
   have e4:IntKind.i64.wrap ((k:Int)+1)=((k+1:Nat):Int):=by rw [wrap_i64]<;>omega
   rcases (by omega:k=0∨k=1∨k=2∨k=3) with rfl|rfl|rfl|rfl
   ·simp only [go_sem,nU,gText0,gText1,gText2,gText3,bB,hgd,hci,hsi,hsd,bu hb,bQ,bh,bW,e3,gtx,c3',e4,show IntKind.i64.wrap 1=1 from by decide,iNq,zog,xv,Ge,cK,List.flatMap_cons,List.flatMap_nil,aV,AV.cells,yal,yak]
    refine ⟨by decide,by decide,by decide,1,by decide,by decide,by simp only [zlb,zkm,zkr];have:=q4.nx;omega,lRq _,hclo 1 _,?_,?_⟩
    ·exact Y128
    ·exact Y10
   ·simp only [go_sem,nU,gText0,gText1,gText2,gText3,bB,hgd,hci,hsi,hsd,bu hb,bQ,bh,bW,e3,gtx,c3',e4,show IntKind.i64.wrap 1=1 from by decide,iNq,zog,xv,Ge,cK,List.flatMap_cons,List.flatMap_nil,aV,AV.cells,yal,yak]
    refine ⟨by decide,by decide,by decide,2,by decide,by decide,by simp only [zlb,zkm,zkr];have:=q4.nx;omega,lRq _,hclo 2 _,?_,?_⟩
    ·exact Y128
    ·exact Y10
   ·simp only [go_sem,nU,gText0,gText1,gText2,gText3,bB,hgd,hci,hsi,hsd,bu hb,bQ,bh,bW,e3,gtx,c3',e4,show IntKind.i64.wrap 1=1 from by decide,iNq,zog,xv,Ge,cK,List.flatMap_cons,List.flatMap_nil,aV,AV.cells,yal,yak]
    refine ⟨by decide,by decide,by decide,3,by decide,by decide,by simp only [zlb,zkm,zkr];have:=q4.nx;omega,lRq _,hclo 3 _,?_,?_⟩
    ·exact Y128
    ·exact Y10
   ·simp only [go_sem,nU,gText0,gText1,gText2,gText3,bB,hgd,hci,hsi,hsd,bu hb,bQ,bh,bW,e3,gtx,c3',e4,show IntKind.i64.wrap 1=1 from by decide,iNq,zog,xv,Ge,cK,List.flatMap_cons,List.flatMap_nil,aV,AV.cells,yal,yak]
    refine ⟨by decide,by decide,by decide,4,by decide,by decide,by simp only [zlb,zkm,zkr];have:=q4.nx;omega,lRq _,hclo 4 _,?_,?_⟩
    ·exact Y128
    ·exact Y10
  ·have hk4:k=4:=by simp at hc;omega
   subst hk4
   simp only [go_sem]
   have hr:ce 8 4 (xv b v 4)=(cK b v).map aV:=nY (by decide) (fun t=>(aV t).cells) (fun _=>rfl) (cK b v)
   refine ⟨?_,?_,hcl2 _,bw cZ⟩
   ·simp only [wk,wk2,wk1,hci,yap,hr,true_or,true_and]
    rw [zmr (by rw [zlb];exact q1)]
   ·exact ((q4.set _ (.inr q1)).set _ (.inl rfl)).le (hgd _ _)
def qy:=eG fun b v=>(.slice .any 5 ((c6 b v).map a8),v+4)
def G3 (b:List UInt8) (v:Nat) (r1 r2:Bool):List AV:=((c6 b v).map fun a=>(⟨a.id,a.name,a.params,a.body,if a.id=3∧r1=true then [112,111,114,116,32,33,61,32,48] else if a.id=5∧r2=true then [120,32,60,32,121,32,124,124,32,120,32,61,61,32,49,53] else []⟩:SAction)).flatMap fun a=>(a8 a).cells
theorem KM {b:List UInt8} {v:Nat}:G3 b v (decide (cv b (v+2) 2=1)) (decide (cv b (v+3) 2=1))=(c6 b v).flatMap fun a=>(a8 a).cells:=by
 by_cases h1:cv b (v+2) 2=1<;>by_cases h2:cv b (v+3) 2=1<;>simp [G3,c6,a8,AV.cells,h1,h2]
theorem B4:EntOk Tryz.prog 49 (Ent.effect qy):=by
 unfold qy
 refine EntOk.effect fun args H K h=>?_
 unfold eG at h
 split at h
 rotate_left
 ·exact h.elim
 rename_i id
 obtain ⟨b,v,hg,hb,hv,hK⟩:=kQ h
 refine ⟨_,_,hK,?_⟩
 clear hK
 dsimp only
 generalize hres:AV.slice .any 5 ((c6 b v).map a8)=res
 refine ACalls.fW ax (tCq ke (tCq m7 tNq)) Tryz.func49 [.tmp 2] (nrq _) (T:=av [(2,[[],[],[],[],[],[],[],[],[],[],[],[],[],[],[],[],[],[],[],[],[],[],[],[],[],[],[],[],[],[],[],[],[],[29],[29,33],[],[],[],[29,33],[],[6,12,22,29,33]]),(802,[[100002],[100005],[100008],[100011],[100016],[100020],[100026],[100044]]),(1202,[[40]]),(3,[[1]])]) (h:=fun hcl hlt=>?_)
 clear hlt
 have hid:=glq hg
 have hne:=qk hid
 have hne2:=qk (show id<H.nx+1+1+1+1+1+1+1+1+1+1+1+1+1+1+1+1 by omega)
 have hgc:=li (b:=b) hid
 have hcl2:∀ w,(H.set id (dZ b w)).Closed:=fun w=>ai hcl ji
 have e2:(2:Int).toNat=2:=rfl
 have e256:(256:Int).toNat=256:=rfl
 have a22:∀ u,IntKind.i64.wrap (2+((cv b u 2:Nat):Int))=2+((cv b u 2:Nat):Int):=fun u=>by
  have:=eR (b:=b) (v:=u) (n:=2) (by decide)
  exact Y118
 have u256:∀ u,IntKind.u64.wrap ((cv b u 256:Nat):Int)=((cv b u 256:Nat):Int):=fun u=>by
  exact Y171
 simp only [go_sem,bB,cd,hg,hgc,bu hb,bQ,bh,bW,hne,hne2,e2,e256,a22,u256]
 (repeat with_reducible refine Yq ?_)
 simp only [bp,aM,bhq,Nat.reduceMod,Nat.reduceDiv,aD,aE,aF,bf,aG,bc,aZ,bb,a9,yaq,yar,yao,yap,go_sem,bB,cd,hg,hgc,bu hb,bQ,bh,bW,hne,hne2,e2,e256,a22,u256]
 refine xS (s:=4) (G3 b v false false) rfl (by simp only [go_sem];rfl) ?_ ?_
 ·simp [G3,c6,a8,bS,za,vc,cp,AV.cells,j6,cw,cx,cQ,fu,cP,jg,kM,jk,wkM]
  have:=eR (b:=b) (v:=v+1) (n:=256) (by decide)
  omega
 simp only [bp,aM,bhq,Nat.reduceMod,Nat.reduceDiv,aD,aE,aF,bf,aG,bc,aZ,bb,a9,yaq,yar,yao,yap,go_sem,bB,cd,hg,hgc,bu hb,bQ,bh,bW,hne,hne2,e2,e256,a22,u256]
 refine au (fun h1=>?_) (fun h1=>?_)
 all_goals
  simp only [bp,aM,bhq,Nat.reduceMod,Nat.reduceDiv,aD,aE,aF,bf,aG,bc,aZ,bb,a9,yaq,yar,yao,yap,go_sem,bB,cd,hg,hgc,bu hb,bQ,bh,bW,hne,hne2,e2,e256,a22,u256,G3,c6,List.flatMap_cons,List.flatMap_nil,a8,AV.cells,yal,yak]
  (repeat with_reducible refine Yq ?_)
  refine au (fun h2=>?_) (fun h2=>?_)
 all_goals
  try simp only [bp,aM,bhq,Nat.reduceMod,Nat.reduceDiv,aD,aE,aF,bf,aG,bc,aZ,bb,a9,yaq,yar,yao,yap,go_sem,bB,cd,hg,hgc,bu hb,bQ,bh,bW,hne,hne2,e2,e256,a22,u256,G3,c6,List.flatMap_cons,List.flatMap_nil,a8,AV.cells,yal,yak]
  (repeat with_reducible refine Yq ?_)
  have hA:=KM (b:=b) (v:=v)
  rw [show decide (cv b (v+2) 2=1)=_ from h1,show decide (cv b (v+3) 2=1)=_ from h2] at hA
  have hr:=nY (sz:=5) (by decide) (fun t=>(a8 t).cells) (fun _=>rfl) (c6 b v)
  rw [← hA] at hr
  subst hres
  refine ⟨?_,?_,hcl2 _,bw ip⟩
  ·simp only [wk,wk2,wk1,go_sem,yap,true_or,true_and]
   refine ⟨?_,?_⟩
   ·exact hr.symm
   ·rw [zmr (by (try simp only [zlb]);omega)]
  ·refine But.le (id:=id) ?_ ?_
   ·repeat (first|exact But.self|refine But.push ?_ _|refine But.set ?_ _ (by first|exact .inl rfl|exact .inr (by (try simp only [zla,zlb]);omega)))
   ·simp only [go_sem,hne,hne2,hgc,cp]
end Go.AL
