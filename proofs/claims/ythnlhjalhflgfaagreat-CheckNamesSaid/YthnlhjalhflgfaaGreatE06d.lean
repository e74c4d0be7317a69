/- Lemmas of the proof; no condition. -/
import Derived.Test.YthnlhjalhflgfaaGreatE05c
import Derived.Test.YthnlhjalhflgfaaGreatLNames
set_option linter.all false
set_option maxRecDepth 10000
open List renaming cons_append → yal, length_cons → yaz, length_nil → yba, take_succ_cons → yaq, take_zero → yar, drop_succ_cons → yao, drop_zero → yap, length_map → ybb, map_cons → yae, map_nil → yaf, append_nil → yaj, take_of_length_le → ybc
open Go Go.AL Go.Proofs
namespace Go.AL
theorem vN:∀ (i:Nat) (l:List SField) (x:SField),rnA i (l++[x])=rnA i l++[{ x with name:=rnN (i+l.length) }]
 |i,[],x=>rfl
 |i,y::l,x=>by
  rw [yal,rnA,vN,rnA,yal,yaz]
  rw [show i+1+l.length=i+(l.length+1) by omega]
theorem wo {α:Type} {l:List α} {j:Nat} (h:j<l.length):l.reverse.take (j+1)=l.reverse.take j++[l[l.length - 1 - j]]:=by
 rw [List.take_succ_eq_append_getElem (by simpa using h),List.getElem_reverse]
def ov:List AV→AHeap→(AV→Prop)→Prop
 |[.slice _ 1 l1,.int .i64 q,.int .i64 a,.int .i64 n],_,K=>(isB l1∧oO q∧oO a)∧K (.bool true)
 |_,_,_=>False
set_option maxHeartbeats 16000000 in
theorem ok_CheckNames:EntOk Tryz.prog 5 (Ent.pure ov):=by
 refine Ype fun _ H K h=>?_
 unfold ov at h
 split at h
 rotate_left
 ·exact h.elim
 rename_i m1 l1 q a n
 obtain ⟨⟨c1,hq,ha⟩,hK⟩:=h
 refine ⟨_,hK,?_⟩
 clear hK
 obtain ⟨x1,rfl⟩:=jj c1
 obtain ⟨B1,hB1⟩:∃ B1,x1.take (min (x1.length:Int) 120).toNat=B1:=⟨_,rfl⟩
 have hL1:B1.length≤1000000:=by rw [← hB1,List.length_take];omega
 have hz1:zod B1 0=ex B1 (cp 0 0):=tW
 have hSm:=Nf B1 0
 generalize hSS:fU B1 0=SS at *
 obtain ⟨S0,w1⟩:=SS
 dsimp only at hSm
 refine ACalls.fW ap (tCq Am (tCq rH (tCq Ee (tCq zz (tCq xY tNq))))) Tryz.func5 [.tmp 8] (nrq _) (T:=aj [(15,[[],[],[],[],[],[],[],[],[],[],[],[],[],[1,3,5,11],[],[1,3,5,11]]),(20,[[],[],[],[],[],[],[],[],[],[],[],[],[],[1,3,5,11],[],[1,3,5,11]]),(815,[[100012]]),(820,[[100012]]),(4,[[0,6]]),(12,[[1]]),(17,[[1]]),(22,[[1,1]])]) (h:=fun hcl hlt=>?_)
 clear hlt
 have hSch:mU=eG fun b v=>(gu (fU b v).1,(fU b v).2):=rfl
 simp only [go_sem,r6]
 refine ⟨x1,⟨rfl,by decide⟩,?_⟩
 rw [hB1,hz1]
 simp only [aE,ah,bhq,Nat.reduceMod,Nat.reduceDiv,au,aq,ay,aN,ax,aM,aJ,aK,aL,yaq,yar,yao,yap,go_sem,hSch,eG,bW hL1,Nat.zero_min,cp0,hSS,gu]
 refine ⟨S0,0,⟨rfl,hSm,by omega,hq,ha,by decide⟩,fun S hS=>?_⟩
 have hlen:=qD hS
 have hlen2:=qD (vC hS)
 have hen:=br
 have f1:=hS.f.1
 have r1:=hS.r.1
 have xl:=hS.x
 have ef:=fL (f:=aX) (l:=S.fields) (by omega)
 have of':∀ z∈S.fields.map aX,cg z.cells=true:=fun z hz=>by
  obtain ⟨x,_,rfl⟩:=List.mem_map.1 hz;rfl
 obtain ⟨e,he⟩:∃ e,pC S=e:=⟨_,rfl⟩
 simp only [iR,aE,ah,bhq,Nat.reduceMod,Nat.reduceDiv,au,aq,ay,aN,ax,aM,aJ,aK,aL,yaq,yar,yao,yap,go_sem,gu,aS,rd]
 refine ⟨S,⟨rfl,Hk hS,by omega⟩,⟨by omega,by omega,of'⟩,?_⟩
 rw [he]
 simp only [ef,Bool.false_eq_true,if_false,ybb,f1]
 refine ⟨lJ (by omega),fun kj=>?_⟩
 cases e2:(e==2) with
 |true =>
  simp only [iR,aE,ah,bhq,Nat.reduceMod,Nat.reduceDiv,au,aq,ay,aN,ax,aM,aJ,aK,aL,yaq,yar,yao,yap,go_sem,iW,e2]
  refine ⟨rfl,by repeat first|exact .refl _|refine .push ?_ _,hcl,by rw [zng];trivial⟩
 |false =>
 cases e7:(e==7) with
 |true =>
  simp only [iR,aE,ah,bhq,Nat.reduceMod,Nat.reduceDiv,au,aq,ay,aN,ax,aM,aJ,aK,aL,yaq,yar,yao,yap,go_sem,iW,e2,e7]
  refine ⟨rfl,by repeat first|exact .refl _|refine .push ?_ _,hcl,by rw [zng];trivial⟩
 |false =>
 cases e3:(e==3) with
 |true =>
  simp only [iR,aE,ah,bhq,Nat.reduceMod,Nat.reduceDiv,au,aq,ay,aN,ax,aM,aJ,aK,aL,yaq,yar,yao,yap,go_sem,iW,e2,e7,e3]
  refine ⟨rfl,by repeat first|exact .refl _|refine .push ?_ _,hcl,by rw [zng];trivial⟩
 |false =>
 simp only [iR,aE,ah,bhq,Nat.reduceMod,Nat.reduceDiv,au,aq,ay,aN,ax,aM,aJ,aK,aL,yaq,yar,yao,yap,go_sem,iW,e2,e7,e3]
 obtain ⟨FL,hFL⟩:∃ FL:Nat→List AV,FL=fun i=>((rnA 0 (S.fields.take i)++S.fields.drop i).map aX).flatMap AV.cells++List.replicate kj .junk:=⟨_,rfl⟩
 have hF0:(S.fields.map aX).flatMap AV.cells++List.replicate kj .junk=FL 0:=by rw [hFL];simp [rnA]
 have hFl:∀ i,i≤9→(FL i).length=27+kj:=fun i hi=>by
  rw [hFL]
  dsimp only
  rw [lAq,pj (sz:=3) (fun _=>rfl),lAq,nd,List.length_take,List.length_drop,List.length_replicate]
  omega
 have hst:∀ i,i<9→splice (FL i) (i*3+1) [.str (rnN i)]=FL (i+1):=fun i hi=>by
  have hi':i<S.fields.length:=by omega
  rw [hFL]
  dsimp only
  rw [dcq hi',List.take_succ_eq_append_getElem hi',vN,List.length_take,Nat.min_eq_left (by omega),nzq]
  obtain ⟨A,hA⟩:∃ A,rnA 0 (S.fields.take i)=A:=⟨_,rfl⟩
  have hAl:A.length=i:=by rw [← hA,nd,List.length_take];omega
  rw [hA]
  simp only [List.map_append,yae,yaf,List.flatMap_append,List.flatMap_cons,List.flatMap_nil,List.append_assoc,yaj]
  have hC:((A.map aX).flatMap AV.cells).length=i*3:=by rw [pj (sz:=3) fun _=>rfl,hAl]
  rw [← hC,aU]
  rfl
 have hF9:bH 3 9 (FL 9)=(rnA 0 S.fields).map aX:=by
  have h9:=oF (f:=aX) (sz:=3) (fun x=>⟨[.int .i64 x.id,.str x.name,.int .i64 x.bits],rfl,rfl⟩) (by decide) (List.replicate kj .junk) (rnA 0 S.fields)
  rw [nd,f1] at h9
  rw [hFL]
  dsimp only
  rw [ybc (by omega),List.drop_of_length_le (by omega),yaj]
  exact h9
 have hFlt:∀ i n,ltL n (FL i):=fun i n=>ltL_iff.2 fun j hj=>by
  have hm:=gMq hj
  generalize (FL i)[j]=z at hm
  rw [hFL] at hm
  rcases List.mem_append.1 hm with hm|hm
  ·exact AV.lt_mono (Nat.zero_le n) _ (jK (fun x=>kU x) _ z hm)
  ·rw [(List.mem_replicate.1 hm).2,znm];trivial
 have hlS:=uH (n:=H.nx) S
 simp only [znu] at hlS
 obtain ⟨a1,a2,a3,a4,a5,a6,a7,a8,a9,a10,_⟩:=hlS
 have hlr:∀ n,AV.lt n (.slice .nil 1 []):=fun n=>by simp [fD,znv]
 have hcb:(((H.push (ex B1 w1)).push (.cells [.slice .any 3 (S.fields.map aX),.slice .any 3 (S.headers.map aH),.slice .any 5 (S.states.map aO),.slice .any 5 (S.actions.map aA),.slice .any 8 (S.tables.map aC),.slice .any 2 (S.stages.map bx),.slice .any 6 (S.roles.map bc),.slice .any 6 (S.refs.map bU),.int .i64 S.maxBatch,.int .i64 S.budget])).push (.cells [])).Closed:=af (af (af hcl jG) (uH S)) trivial
 have hc1:∀ i,(((((H.push (ex B1 w1)).push (.cells [.slice .any 3 (S.fields.map aX),.slice .any 3 (S.headers.map aH),.slice .any 5 (S.states.map aO),.slice .any 5 (S.actions.map aA),.slice .any 8 (S.tables.map aC),.slice .any 2 (S.stages.map bx),.slice .any 6 (S.roles.map bc),.slice .any 6 (S.refs.map bU),.int .i64 S.maxBatch,.int .i64 S.budget])).push (.cells [.ms (H.nx+1+1+1) 0 3 9,.slice .any 3 (S.headers.map aH),.slice .any 5 (S.states.map aO),.slice .any 5 (S.actions.map aA),.slice .any 8 (S.tables.map aC),.slice .any 2 (S.stages.map bx),.slice .nil 1 [],.slice .nil 1 [],.int .i64 S.maxBatch,.int .i64 S.budget])).push (.cells (FL (i))))).Closed:=fun i=>by
  have h1:=ba (i:=H.nx+1+1) (cs:=[.ms (H.nx+1+1+1) 0 3 9,.slice .any 3 (S.headers.map aH),.slice .any 5 (S.states.map aO),.slice .any 5 (S.actions.map aA),.slice .any 8 (S.tables.map aC),.slice .any 2 (S.stages.map bx),.slice .nil 1 [],.slice .nil 1 [],.int .i64 S.maxBatch,.int .i64 S.budget]) (af (cs:=FL (i)) hcb (hFlt (i) _)) (by
   simp only [znu,znv,and_true,zle,znp]
   exact ⟨by omega,AV.lt_mono (by omega) _ a2,AV.lt_mono (by omega) _ a3,AV.lt_mono (by omega) _ a4,AV.lt_mono (by omega) _ a5,AV.lt_mono (by omega) _ a6,hlr _,hlr _,by simp [znf],by simp [znf]⟩)
  simp only [go_sem] at h1
  exact h1
 have hc2:∀ j,((((((H.push (ex B1 w1)).push (.cells [.slice .any 3 (S.fields.map aX),.slice .any 3 (S.headers.map aH),.slice .any 5 (S.states.map aO),.slice .any 5 (S.actions.map aA),.slice .any 8 (S.tables.map aC),.slice .any 2 (S.stages.map bx),.slice .any 6 (S.roles.map bc),.slice .any 6 (S.refs.map bU),.int .i64 S.maxBatch,.int .i64 S.budget])).push (.cells [.ms (H.nx+1+1+1) 0 3 9,.slice .any 3 (S.headers.map aH),.slice .any 5 (S.states.map aO),.slice .any 5 (S.actions.map aA),.slice .any 8 (S.tables.map aC),.slice .any 2 (S.stages.map bx),.slice (.own (H.nx+1+1+1+1)) 6 ((S.roles.reverse.take (j)).map bc),.slice .nil 1 [],.int .i64 S.maxBatch,.int .i64 S.budget])).push (.cells (FL 9))).push (.buf 6 (j)))).Closed:=fun j=>by
  have h1:=ba (i:=H.nx+1+1) (cs:=[.ms (H.nx+1+1+1) 0 3 9,.slice .any 3 (S.headers.map aH),.slice .any 5 (S.states.map aO),.slice .any 5 (S.actions.map aA),.slice .any 8 (S.tables.map aC),.slice .any 2 (S.stages.map bx),.slice (.own (H.nx+1+1+1+1)) 6 ((S.roles.reverse.take (j)).map bc),.slice .nil 1 [],.int .i64 S.maxBatch,.int .i64 S.budget]) (aY (a:=6) (b:=j) (af (cs:=FL (9)) hcb (hFlt (9) _))) (by
   simp only [znu,znv,and_true,zle,znp]
   exact ⟨by omega,AV.lt_mono (by omega) _ a2,AV.lt_mono (by omega) _ a3,AV.lt_mono (by omega) _ a4,AV.lt_mono (by omega) _ a5,AV.lt_mono (by omega) _ a6,gA (eA (by omega)) lN,hlr _,by simp [znf],by simp [znf]⟩)
  simp only [go_sem] at h1
  exact h1
 have hc3:∀ j,(((((((H.push (ex B1 w1)).push (.cells [.slice .any 3 (S.fields.map aX),.slice .any 3 (S.headers.map aH),.slice .any 5 (S.states.map aO),.slice .any 5 (S.actions.map aA),.slice .any 8 (S.tables.map aC),.slice .any 2 (S.stages.map bx),.slice .any 6 (S.roles.map bc),.slice .any 6 (S.refs.map bU),.int .i64 S.maxBatch,.int .i64 S.budget])).push (.cells [.ms (H.nx+1+1+1) 0 3 9,.slice .any 3 (S.headers.map aH),.slice .any 5 (S.states.map aO),.slice .any 5 (S.actions.map aA),.slice .any 8 (S.tables.map aC),.slice .any 2 (S.stages.map bx),.slice (.own (H.nx+1+1+1+1)) 6 ((S.roles.reverse.take (S.roles.length)).map bc),.slice (.own (H.nx+1+1+1+1+1)) 6 ((S.refs.reverse.take (j)).map bU),.int .i64 S.maxBatch,.int .i64 S.budget])).push (.cells (FL 9))).push (.buf 6 S.roles.length)).push (.buf 6 (j)))).Closed:=fun j=>by
  have h1:=ba (i:=H.nx+1+1) (cs:=[.ms (H.nx+1+1+1) 0 3 9,.slice .any 3 (S.headers.map aH),.slice .any 5 (S.states.map aO),.slice .any 5 (S.actions.map aA),.slice .any 8 (S.tables.map aC),.slice .any 2 (S.stages.map bx),.slice (.own (H.nx+1+1+1+1)) 6 ((S.roles.reverse.take (S.roles.length)).map bc),.slice (.own (H.nx+1+1+1+1+1)) 6 ((S.refs.reverse.take (j)).map bU),.int .i64 S.maxBatch,.int .i64 S.budget]) (aY (a:=6) (b:=j) (aY (a:=6) (b:=S.roles.length) (af (cs:=FL (9)) hcb (hFlt (9) _)))) (by
   simp only [znu,znv,and_true,zle,znp]
   exact ⟨by omega,AV.lt_mono (by omega) _ a2,AV.lt_mono (by omega) _ a3,AV.lt_mono (by omega) _ a4,AV.lt_mono (by omega) _ a5,AV.lt_mono (by omega) _ a6,gA (eA (by omega)) lN,gA (eA (by omega)) vG,by simp [znf],by simp [znf]⟩)
  simp only [go_sem] at h1
  exact h1
 rw [hF0]
 refine aD (A:=Nat) (fun i=>[(9,.ptr (H.nx+1) 0),(10,.int .i64 e),(11,.ptr (H.nx+1+1) 0),(45,.int .i64 9),(46,.int .i64 (i:Int))]) (fun i=>((((H.push (ex B1 w1)).push (.cells [.slice .any 3 (S.fields.map aX),.slice .any 3 (S.headers.map aH),.slice .any 5 (S.states.map aO),.slice .any 5 (S.actions.map aA),.slice .any 8 (S.tables.map aC),.slice .any 2 (S.stages.map bx),.slice .any 6 (S.roles.map bc),.slice .any 6 (S.refs.map bU),.int .i64 S.maxBatch,.int .i64 S.budget])).push (.cells [.ms (H.nx+1+1+1) 0 3 9,.slice .any 3 (S.headers.map aH),.slice .any 5 (S.states.map aO),.slice .any 5 (S.actions.map aA),.slice .any 8 (S.tables.map aC),.slice .any 2 (S.stages.map bx),.slice .nil 1 [],.slice .nil 1 [],.int .i64 S.maxBatch,.int .i64 S.budget])).push (.cells (FL (i))))) (fun i=>i≤9) (fun i=>9 - i) 0 (by omega) ?_ fun i hi=>?_
 ·skip
  refine ⟨by (try simp only [zkq,zkv,zle]);omega,by repeat first|exact .refl _|refine .push ?_ _,hc1 _,?_,?_⟩
  ·simp [ltF,znf,znn,zle]
   try omega
  ·simp [bk,wk2,wk1,wkM,Fr.get]
 simp only [go_sem]
 refine ak (fun hc=>?_) (fun hc=>?_)
 ·have hi9:i<9:=by simp at hc;omega
  have ei:IntKind.i64.wrap ((i:Int)+1)=((i+1:Nat):Int):=by rw [wrap_i64]<;>omega
  simp only [iR,aE,ah,bhq,Nat.reduceMod,Nat.reduceDiv,au,aq,ay,aN,ax,aM,aJ,aK,aL,yaq,yar,yao,yap,go_sem]
  have hnm:[byteOf (.int .u8 113),byteOf (.int .u8 (IntKind.u8.wrap (IntKind.i64.wrap (97+(i:Int).tmod 26)))),byteOf (.int .u8 (IntKind.u8.wrap (IntKind.i64.wrap (97+IntKind.i64.wrap ((i:Int).tdiv 26)))))]=rnN i:=by
   have:i=0∨i=1∨i=2∨i=3∨i=4∨i=5∨i=6∨i=7∨i=8:=by omega
   rcases this with rfl|rfl|rfl|rfl|rfl|rfl|rfl|rfl|rfl<;>rfl
  refine ⟨by decide,by decide,fun x hx=>by
   simp only [List.mem_cons,List.not_mem_nil,or_false] at hx
   rcases hx with rfl|rfl|rfl<;>exact ⟨_,rfl⟩,⟨by omega,by omega⟩,by rw [hFl i (by omega)];omega,?_⟩
  rw [hnm,hst i hi9,ei]
  refine ⟨i+1,by omega,by omega,?_⟩
  refine ⟨by (try simp only [zkq,zkv,zle]);omega,by repeat first|exact .refl _|refine .push ?_ _,hc1 _,?_,?_⟩
  ·simp [ltF,znf,znn,zle]
   try omega
  ·simp [bk,wk2,wk1,wkM,Fr.get]
 ·have hi9:i=9:=by simp at hc;omega
  subst hi9
  simp only [iR,aE,ah,bhq,Nat.reduceMod,Nat.reduceDiv,au,aq,ay,aN,ax,aM,aJ,aK,aL,yaq,yar,yao,yap,go_sem]
  refine pJ 11 6 6 (cs:=[.ms (H.nx+1+1+1) 0 3 9,.slice .any 3 (S.headers.map aH),.slice .any 5 (S.states.map aO),.slice .any 5 (S.actions.map aA),.slice .any 8 (S.tables.map aC),.slice .any 2 (S.stages.map bx),.slice .nil 1 [],.slice .nil 1 [],.int .i64 S.maxBatch,.int .i64 S.budget]) rfl (by simp only [go_sem]) rfl ?_
  simp only [bhq,Nat.reduceMod,Nat.reduceDiv,au,aq,ay,aN,ax,aM,aJ,aK,aL,yaq,yar,yao,yap,go_sem,List.set_cons_succ,List.set_cons_zero,ybb,r1]
  refine aD (A:=Nat) (fun j=>[(9,.ptr (H.nx+1) 0),(10,.int .i64 e),(11,.ptr (H.nx+1+1) 0),(67,.int .i64 3),(68,.int .i64 (j:Int))]) (fun j=>(((((H.push (ex B1 w1)).push (.cells [.slice .any 3 (S.fields.map aX),.slice .any 3 (S.headers.map aH),.slice .any 5 (S.states.map aO),.slice .any 5 (S.actions.map aA),.slice .any 8 (S.tables.map aC),.slice .any 2 (S.stages.map bx),.slice .any 6 (S.roles.map bc),.slice .any 6 (S.refs.map bU),.int .i64 S.maxBatch,.int .i64 S.budget])).push (.cells [.ms (H.nx+1+1+1) 0 3 9,.slice .any 3 (S.headers.map aH),.slice .any 5 (S.states.map aO),.slice .any 5 (S.actions.map aA),.slice .any 8 (S.tables.map aC),.slice .any 2 (S.stages.map bx),.slice (.own (H.nx+1+1+1+1)) 6 ((S.roles.reverse.take (j)).map bc),.slice .nil 1 [],.int .i64 S.maxBatch,.int .i64 S.budget])).push (.cells (FL 9))).push (.buf 6 (j)))) (fun j=>j≤3) (fun j=>3 - j) 0 (by omega) ?_ fun j hj=>?_
  ·skip
   refine ⟨by (try simp only [zkq,zkv,zle]);omega,by repeat first|exact .refl _|refine .push ?_ _,hc2 _,?_,?_⟩
   ·simp [ltF,znf,znn,zle]
    try omega
   ·simp [bk,wk2,wk1,wkM,Fr.get]
  simp only [go_sem]
  refine ak (fun hc=>?_) (fun hc=>?_)
  ·have hj3:j<3:=by simp at hc;omega
   have ej:IntKind.i64.wrap ((j:Int)+1)=((j+1:Nat):Int):=by rw [wrap_i64]<;>omega
   obtain ⟨x,hx⟩:∃ x,x=S.roles[S.roles.length - 1 - j]:=⟨_,rfl⟩
   have wl:IntKind.i64.wrap ((S.roles.length:Int) - 1)=(S.roles.length:Int) - 1:=by rw [wrap_i64]<;>omega
   have wj:IntKind.i64.wrap ((S.roles.length:Int) - 1 - (j:Int))=((S.roles.length - 1 - j:Nat):Int):=by rw [wrap_i64]<;>omega
   have hgx:=a0 (f:=bc) (l:=S.roles) (k:=S.roles.length - 1 - j) (x:=x) (by rw [gQq (by omega),hx])
   replace hgx:_=AV.agg [.int .i64 x.id,.str x.name,.slice .any 4 (x.grants.map bj),.slice .any 1 (inL x.actions),.int .i64 x.quota,.bool x.audit]:=hgx
   have hsn:(S.roles.reverse.take j).map bc++[.agg [.int .i64 x.id,.str x.name,.slice .any 4 (x.grants.map bj),.slice .any 1 (inL x.actions),.int .i64 x.quota,.bool x.audit]]=(S.roles.reverse.take (j+1)).map bc:=by rw [wo (by omega),List.map_append,hx];rfl
   have hln:(S.roles.reverse.take j).length=j:=by rw [List.length_take,List.length_reverse];omega
   simp only [iR,aE,ah,bhq,Nat.reduceMod,Nat.reduceDiv,au,aq,ay,aN,ax,aM,aJ,aK,aL,yaq,yar,yao,yap,go_sem,wl,wj,iNq,hgx,hsn,hln,ybb,ej]
   refine ⟨⟨by omega,by omega⟩,⟨by omega,by omega,fun z hz=>by rw [List.mem_singleton.1 hz];rfl⟩,j+1,by omega,by omega,?_⟩
   refine ⟨by (try simp only [zkq,zkv,zle]);omega,by repeat first|exact .refl _|refine .push ?_ _,hc2 _,?_,?_⟩
   ·simp [ltF,znf,znn,zle]
    try omega
   ·simp [bk,wk2,wk1,wkM,Fr.get]
  ·have hj3:j=3:=by simp at hc;omega
   subst hj3
   simp only [iR,aE,ah,bhq,Nat.reduceMod,Nat.reduceDiv,au,aq,ay,aN,ax,aM,aJ,aK,aL,yaq,yar,yao,yap,go_sem]
   refine pJ 11 7 6 (cs:=[.ms (H.nx+1+1+1) 0 3 9,.slice .any 3 (S.headers.map aH),.slice .any 5 (S.states.map aO),.slice .any 5 (S.actions.map aA),.slice .any 8 (S.tables.map aC),.slice .any 2 (S.stages.map bx),.slice (.own (H.nx+1+1+1+1)) 6 ((S.roles.reverse.take (3)).map bc),.slice .nil 1 [],.int .i64 S.maxBatch,.int .i64 S.budget]) rfl (by simp only [go_sem]) rfl ?_
   have htk:S.roles.reverse.take 3=S.roles.reverse.take S.roles.length:=by rw [r1]
   rw [htk]
   simp only [bhq,Nat.reduceMod,Nat.reduceDiv,au,aq,ay,aN,ax,aM,aJ,aK,aL,yaq,yar,yao,yap,go_sem,List.set_cons_succ,List.set_cons_zero,ybb]
   have hb6:AObj.buf 6 3=.buf 6 S.roles.length:=by rw [r1]
   rw [hb6]
   refine aD (A:=Nat) (fun j=>[(9,.ptr (H.nx+1) 0),(10,.int .i64 e),(11,.ptr (H.nx+1+1) 0),(89,.int .i64 (S.refs.length:Int)),(90,.int .i64 (j:Int))]) (fun j=>((((((H.push (ex B1 w1)).push (.cells [.slice .any 3 (S.fields.map aX),.slice .any 3 (S.headers.map aH),.slice .any 5 (S.states.map aO),.slice .any 5 (S.actions.map aA),.slice .any 8 (S.tables.map aC),.slice .any 2 (S.stages.map bx),.slice .any 6 (S.roles.map bc),.slice .any 6 (S.refs.map bU),.int .i64 S.maxBatch,.int .i64 S.budget])).push (.cells [.ms (H.nx+1+1+1) 0 3 9,.slice .any 3 (S.headers.map aH),.slice .any 5 (S.states.map aO),.slice .any 5 (S.actions.map aA),.slice .any 8 (S.tables.map aC),.slice .any 2 (S.stages.map bx),.slice (.own (H.nx+1+1+1+1)) 6 ((S.roles.reverse.take (S.roles.length)).map bc),.slice (.own (H.nx+1+1+1+1+1)) 6 ((S.refs.reverse.take (j)).map bU),.int .i64 S.maxBatch,.int .i64 S.budget])).push (.cells (FL 9))).push (.buf 6 S.roles.length)).push (.buf 6 (j)))) (fun j=>j≤S.refs.length) (fun j=>S.refs.length - j) 0 (Nat.zero_le _) ?_ fun j hj=>?_
   ·skip
    refine ⟨by (try simp only [zkq,zkv,zle]);omega,by repeat first|exact .refl _|refine .push ?_ _,hc3 _,?_,?_⟩
    ·simp [ltF,znf,znn,zle]
     try omega
    ·simp [bk,wk2,wk1,wkM,Fr.get]
   simp only [go_sem]
   refine ak (fun hc=>?_) (fun hc=>?_)
   ·have hj3:j<S.refs.length:=by simp at hc;omega
    have ej:IntKind.i64.wrap ((j:Int)+1)=((j+1:Nat):Int):=by rw [wrap_i64]<;>omega
    obtain ⟨x,hx⟩:∃ x,x=S.refs[S.refs.length - 1 - j]:=⟨_,rfl⟩
    have wl:IntKind.i64.wrap ((S.refs.length:Int) - 1)=(S.refs.length:Int) - 1:=by rw [wrap_i64]<;>omega
    have wj:IntKind.i64.wrap ((S.refs.length:Int) - 1 - (j:Int))=((S.refs.length - 1 - j:Nat):Int):=by rw [wrap_i64]<;>omega
    have hgx:=a0 (f:=bU) (l:=S.refs) (k:=S.refs.length - 1 - j) (x:=x) (by rw [gQq (by omega),hx])
    replace hgx:_=AV.agg [.int .i64 x.table,.int .i64 x.key,.int .i64 x.action,.int .i64 x.param,.int .i64 x.toTable,.int .i64 x.toKey]:=hgx
    have hsn:(S.refs.reverse.take j).map bU++[.agg [.int .i64 x.table,.int .i64 x.key,.int .i64 x.action,.int .i64 x.param,.int .i64 x.toTable,.int .i64 x.toKey]]=(S.refs.reverse.take (j+1)).map bU:=by rw [wo (by omega),List.map_append,hx];rfl
    have hln:(S.refs.reverse.take j).length=j:=by rw [List.length_take,List.length_reverse];omega
    simp only [iR,aE,ah,bhq,Nat.reduceMod,Nat.reduceDiv,au,aq,ay,aN,ax,aM,aJ,aK,aL,yaq,yar,yao,yap,go_sem,wl,wj,iNq,hgx,hsn,hln,ybb,ej]
    refine ⟨⟨by omega,by omega⟩,⟨by omega,by omega,fun z hz=>by rw [List.mem_singleton.1 hz];rfl⟩,j+1,by omega,by omega,?_⟩
    refine ⟨by (try simp only [zkq,zkv,zle]);omega,by repeat first|exact .refl _|refine .push ?_ _,hc3 _,?_,?_⟩
    ·simp [ltF,znf,znn,zle]
     try omega
    ·simp [bk,wk2,wk1,wkM,Fr.get]
   ·have hj3:j=S.refs.length:=by simp at hc;omega
    subst hj3
    simp only [iR,aE,ah,bhq,Nat.reduceMod,Nat.reduceDiv,au,aq,ay,aN,ax,aM,aJ,aK,aL,yaq,yar,yao,yap,go_sem]
    have htr:S.roles.reverse.take S.roles.length=S.roles.reverse:=ybc (by simp)
    have htx:S.refs.reverse.take S.refs.length=S.refs.reverse:=ybc (by simp)
    rw [htr,htx]
    refine gM (H.nx+1+1) (cs:=[.ms (H.nx+1+1+1) 0 3 9,.slice .any 3 (S.headers.map aH),.slice .any 5 (S.states.map aO),.slice .any 5 (S.actions.map aA),.slice .any 8 (S.tables.map aC),.slice .any 2 (S.stages.map bx),.slice (.own (H.nx+1+1+1+1)) 6 (S.roles.reverse.map bc),.slice (.own (H.nx+1+1+1+1+1)) 6 (S.refs.reverse.map bU),.int .i64 S.maxBatch,.int .i64 S.budget]) [.ms (H.nx+1+1+1) 0 3 9,.slice .any 3 (S.headers.map aH),.slice .any 5 (S.states.map aO),.slice .any 5 (S.actions.map aA),.slice .any 8 (S.tables.map aC),.slice .any 2 (S.stages.map bx),.slice .any 6 (S.roles.reverse.map bc),.slice .any 6 (S.refs.reverse.map bU),.int .i64 S.maxBatch,.int .i64 S.budget] (by simp only [go_sem]) ?_ ?_
    ·simp [dc,dK,dd,wkM,fY,gg]
    simp only [iR,aE,ah,bhq,Nat.reduceMod,Nat.reduceDiv,au,aq,ay,aN,ax,aM,aJ,aK,aL,yaq,yar,yao,yap,go_sem]
    refine wE (H.nx+1+1) 0 (H.nx+1+1+1) 0 3 9 ((rnA 0 S.fields).map aX) (by simp only [go_sem];rfl) rfl (by omega) (by simp only [go_sem];rfl) (by rw [yap];exact hF9) (aZ kU) fun H2 hg hk hn=>?_
    simp only [List.set_cons_zero] at hg
    have q0:=ag hg
    simp only [iR,aE,ah,bhq,Nat.reduceMod,Nat.reduceDiv,au,aq,ay,aN,ax,aM,aJ,aK,aL,yaq,yar,yao,yap,go_sem,q0,rd]
    refine ⟨rnS S,⟨rfl,Hk (vC hS),by omega⟩,?_⟩
    rw [Bq hS (by rw [he];simpa using e2) (by rw [he];simpa using e7) (by rw [he];simpa using e3),he]
    simp only [iR,aE,ah,bhq,Nat.reduceMod,Nat.reduceDiv,au,aq,ay,aN,ax,aM,aJ,aK,aL,yaq,yar,yao,yap,go_sem,beq_self_eq_true,iW]
    refine ⟨rfl,⟨by simp only [zle,zlf] at hn;omega,fun l o hj=>?_⟩,hcl,by rw [zng];trivial⟩
    have hj2:=glq hj
    exact hk l o (by omega) (by omega) (AHeap.Le.get (by repeat first|exact .refl _|refine .push ?_ _) _ _ hj)
end Go.AL
