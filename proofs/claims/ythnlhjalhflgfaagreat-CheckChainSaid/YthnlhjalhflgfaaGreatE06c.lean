/- Lemmas of the proof; no condition. -/
import Derived.Test.YthnlhjalhflgfaaGreatE05c
import Derived.Test.YthnlhjalhflgfaaGreatLChain
set_option linter.all false
set_option maxRecDepth 10000
open List renaming length_cons → yaz, length_nil → yba, take_succ_cons → yaq, take_zero → yar, drop_succ_cons → yao, drop_zero → yap, take_nil → yas, length_map → ybb
open Option renaming map_some → yag
open Go Go.AL Go.Proofs
namespace Go.AL
theorem Jg:ti Tryz.prog 59=some ⟨.array 7 58,49,49,.agg (List.replicate 49 (.bool false))⟩:=by kernel_rfl
theorem KZ:ti Tryz.prog 58=some ⟨.array 7 4,7,7,.agg [.bool false,.bool false,.bool false,.bool false,.bool false,.bool false,.bool false]⟩:=by kernel_rfl
attribute [go_sem] Jg KZ
theorem z3 (k:Nat):jM (k+1)=jM k++[chT (k+1)]:=by
 unfold jM
 rw [List.range_succ,List.map_append];rfl
theorem Bw (k:Nat):(jM k).length=k:=by unfold jM;simp
def mxC (M:Mx):List AV:=(List.range 49).map fun i=>.bool (M (i/7) (i % 7))
theorem BE:mxC (fun _ _=>false)=List.replicate 49 (.bool false):=rfl
theorem K0 {n:Nat} {M:Mx}:ltL n (mxC M):=by
 unfold mxC
 exact ltL_iff.2 fun j hj=>by rw [List.getElem_map,zng];trivial
theorem sV {M:Mx}:(mxC M).length=49:=by unfold mxC;simp
theorem sq {M:Mx} {a b:Nat} (ha:a<7) (hb:b<7) {d:AV}:(mxC M).getD (a*7+b) d=.bool (M a b):=by
 unfold mxC
 rw [gEq,List.getElem?_map,List.getElem?_range (by omega)]
 simp only [yag,Option.getD_some]
 rw [show (a*7+b)/7=a by omega,show (a*7+b) % 7=b by omega]
theorem oS {M N:Mx} {x y:Nat} (hx:x<7) (hy:y<7) (h:∀ a b,N a b=if a=x∧b=y then true else M a b):(mxC M).set (x*7+y) (.bool true)=mxC N:=by
 unfold mxC
 refine List.ext_getElem (by simp) fun i h1 h2=>?_
 rw [List.getElem_set,List.getElem_map,List.getElem_map,List.getElem_range,h]
 by_cases he:x*7+y=i
 ·rw [if_pos he,if_pos ⟨by omega,by omega⟩]
 ·rw [if_neg he,if_neg (by omega)]
theorem MJ:RIn []:=fun r hr=>by cases hr
theorem Ml:RInv [] (fun _ _=>false):=⟨⟨fun _=>0,fun r hr=>absurd hr (by simp)⟩,fun _ _ _ _ h=>(Bool.false_ne_true h).elim,fun r hr=>absurd hr (by simp)⟩
def nk:List AV→AHeap→(AV→Prop)→Prop
 |[.slice _ 1 l1],_,K=>(isB l1)∧K (.bool true)
 |_,_,_=>False
set_option maxHeartbeats 16000000 in
theorem ok_CheckChain:EntOk Tryz.prog 6 (Ent.pure nk):=by
 refine Ype fun _ H K h=>?_
 unfold nk at h
 split at h
 rotate_left
 ·exact h.elim
 rename_i m1 l1
 obtain ⟨c1,hK⟩:=h
 refine ⟨_,hK,?_⟩
 clear hK
 obtain ⟨x1,rfl⟩:=ic c1
 obtain ⟨B1,hB1⟩:∃ B1,x1.take (min (x1.length:Int) 40).toNat=B1:=⟨_,rfl⟩
 have hL1:B1.length≤40:=by rw [← hB1,List.length_take];omega
 have hL1':B1.length≤1000000:=by omega
 have hz1:zod B1 0=cK B1 (cp 0 0):=nL
 have hze:zod ([]:List UInt8) 0=cK [] (cp 0 0):=nL
 obtain ⟨S,hS⟩:∃ S,(fk [] 0).1=S:=⟨_,rfl⟩
 have hS':mI (fk [] 0).1=.agg (aO S):=by rw [hS];rfl
 refine ACalls.fW ak (tCq xq (tCq qn (tCq tO (tCq i5 (tCq xp (tCq vS tNq)))))) Tryz.func6 [.tmp 2] (nrq _) (T:=aj [(4,[[1]]),(7,[[40]]),(8,[[1]]),(15,[[1]])]) (h:=fun hcl hlt=>?_)
 clear hlt
 simp only [go_sem,nw]
 refine ⟨x1,⟨rfl,by decide⟩,?_⟩
 rw [hB1,hz1]
 refine ⟨[],⟨rfl,by omega⟩,?_⟩
 simp only [aJ,ag,bhq,Nat.reduceMod,Nat.reduceDiv,aC,aB,aD,aT,aE,aS,aP,aQ,aR,yaq,yar,yao,yap,go_sem,nw,lz,eG,yas,hze,bE (b:=[]) (by decide),yba,Nat.min_zero,hS',aO]
 refine sg 4 4 8 (cs:=[.slice .any 3 (S.fields.map aV),.slice .any 3 (S.headers.map aH),.slice .any 5 (S.states.map aL),.slice .any 5 (S.actions.map ax),.slice .nil 1 [],.slice .nil 1 [],.slice .nil 1 [],.slice .nil 1 [],.int .i64 S.maxBatch,.int .i64 S.budget]) rfl (by simp only [go_sem]) rfl ?_
 simp only [bhq,Nat.reduceMod,Nat.reduceDiv,aC,aB,aD,aT,aE,aS,aP,aQ,aR,yaq,yar,yao,yap,go_sem,List.set_cons_succ,List.set_cons_zero]
 obtain ⟨w0,hw0⟩:∃ w0,(fk [] 0).2=w0:=⟨_,rfl⟩
 rw [hw0]
 have hlS:=w6 (n:=H.nx+1+1) S
 simp only [znu] at hlS
 obtain ⟨a1,a2,a3,a4,a5,a6,a7,a8,a9,a10,_⟩:=hlS
 have hcT:∀ k,((((H.push (cK B1 (cp 0 0))).push (cK [] w0)).push (.cells [.slice .any 3 (S.fields.map aV),.slice .any 3 (S.headers.map aH),.slice .any 5 (S.states.map aL),.slice .any 5 (S.actions.map ax),.slice (.own (H.nx+1+1+1)) 8 ((jM k).map az),.slice .nil 1 [],.slice .nil 1 [],.slice .nil 1 [],.int .i64 S.maxBatch,.int .i64 S.budget])).push (.buf 8 k)).Closed:=fun k=>by
  have h0:(((H.push (cK B1 (cp 0 0))).push (cK [] w0)).push (.cells [])).push (.buf 8 k) |>.Closed:=bc (ae (ae (ae hcl fS) fS) trivial)
  have h1:=bb (i:=H.nx+1+1) (cs:=[.slice .any 3 (S.fields.map aV),.slice .any 3 (S.headers.map aH),.slice .any 5 (S.states.map aL),.slice .any 5 (S.actions.map ax),.slice (.own (H.nx+1+1+1)) 8 ((jM k).map az),.slice .nil 1 [],.slice .nil 1 [],.slice .nil 1 [],.int .i64 S.maxBatch,.int .i64 S.budget]) h0 (by
   simp only [znu,znv,and_true,zle]
   refine ⟨AV.lt_mono (by omega) _ a1,AV.lt_mono (by omega) _ a2,AV.lt_mono (by omega) _ a3,AV.lt_mono (by omega) _ a4,?_,by simp [cJ,znv],by simp [cJ,znv],by simp [cJ,znv],by simp [znf],by simp [znf]⟩
   rw [cJ]
   exact ⟨fun id h=>by injection h with h;omega,ltL_iff.2 fun j hj=>by rw [List.getElem_map];exact dp _⟩)
  simp only [go_sem] at h1
  exact h1
 refine ay (A:=Nat) (fun k=>[(3,.ptr H.nx 0),(4,.ptr (H.nx+1+1) 0),(5,.int .i64 ((k+1:Nat):Int))]) (fun k=>(((H.push (cK B1 (cp 0 0))).push (cK [] w0)).push (.cells [.slice .any 3 (S.fields.map aV),.slice .any 3 (S.headers.map aH),.slice .any 5 (S.states.map aL),.slice .any 5 (S.actions.map ax),.slice (.own (H.nx+1+1+1)) 8 ((jM k).map az),.slice .nil 1 [],.slice .nil 1 [],.slice .nil 1 [],.int .i64 S.maxBatch,.int .i64 S.budget])).push (.buf 8 k)) (fun k=>k≤6) (fun k=>6 - k) 0 (by omega) ?_ fun k hk=>?_
 ·refine ⟨by simp only [zkq,zkv,zle];omega,lRq _,hcT 0,?_,?_⟩
  ·simp [ltF,znf,znn,zle]
   omega
  ·simp [ba,wk2,wk1,wkM,Fr.get]
 simp only [go_sem]
 refine ah (fun hc=>?_) (fun hc=>?_)
 ·have hk':k<6:=by simp at hc;omega
  have hby:AV.int .u8 (IntKind.u8.wrap (IntKind.i64.wrap (48+((k+1:Nat):Int))))=bo (UInt8.ofNat (48+(k+1))):=by
   have:k=0∨k=1∨k=2∨k=3∨k=4∨k=5:=by omega
   rcases this with rfl|rfl|rfl|rfl|rfl|rfl<;>rfl
  have e5:IntKind.i64.wrap (((k+1:Nat):Int)+1)=((k+1+1:Nat):Int):=by rw [wrap_i64]<;>omega
  simp only [aJ,ag,bhq,Nat.reduceMod,Nat.reduceDiv,aC,aB,aD,aT,aE,aS,aP,aQ,aR,yaq,yar,yao,yap,go_sem,byq,e5]
  refine ⟨fun x hx=>by
   simp only [List.mem_cons,List.not_mem_nil,or_false] at hx
   rcases hx with rfl|rfl<;>exact ⟨_,rfl⟩,?_⟩
  have hb1:byteOf (.int .u8 116)=116:=rfl
  rw [hby,lZ,hb1]
  refine gg 38 (.slice .any 8 [az (chT (k+1))]) ?_ ?_
  ·simp [Fr.get,az,chT,bN,inL,iF,dY,dX,eK,eJ,fm,iN,wkM,AV.cells,i6]
  have hts:(jM k).map az++[az (chT (k+1))]=(jM (k+1)).map az:=by rw [z3,List.map_append];rfl
  simp only [aJ,ag,bhq,Nat.reduceMod,Nat.reduceDiv,aC,aB,aD,aT,aE,aS,aP,aQ,aR,yaq,yar,yao,yap,go_sem,byq,e5,hts,Bw]
  refine ⟨⟨by omega,by omega,fun z hz=>by rw [List.mem_singleton.1 hz];rfl⟩,k+1,by omega,by omega,?_⟩
  refine ⟨by simp only [zle];omega,by repeat first|exact .refl _|refine .push ?_ _,hcT _,?_,?_⟩
  ·simp [ltF,znf,znn,zle]
   omega
  ·simp [ba,wk2,wk1,wkM,Fr.get]
 ·have hk':k=6:=by simp at hc;omega
  subst hk'
  simp only [aJ,ag,bhq,Nat.reduceMod,Nat.reduceDiv,aC,aB,aD,aT,aE,aS,aP,aQ,aR,yaq,yar,yao,yap,go_sem]
  refine m0 (H.nx+1+1) (cs:=[.slice .any 3 (S.fields.map aV),.slice .any 3 (S.headers.map aH),.slice .any 5 (S.states.map aL),.slice .any 5 (S.actions.map ax),.slice (.own (H.nx+1+1+1)) 8 ((jM 6).map az),.slice .nil 1 [],.slice .nil 1 [],.slice .nil 1 [],.int .i64 S.maxBatch,.int .i64 S.budget]) [.slice .any 3 (S.fields.map aV),.slice .any 3 (S.headers.map aH),.slice .any 5 (S.states.map aL),.slice .any 5 (S.actions.map ax),.slice .any 8 ((jM 6).map az),.slice .any 2 [],.slice .any 6 [],.slice .any 6 ((rfs []).map bZ),.int .i64 S.maxBatch,.int .i64 S.budget] (by simp only [go_sem]) ?_ ?_
  ·simp [dX,eK,dY,wkM,i6,rfs,lG]
  simp only [aJ,ag,bhq,Nat.reduceMod,Nat.reduceDiv,aC,aB,aD,aT,aE,aS,aP,aQ,aR,yaq,yar,yao,yap,go_sem]
  rw [← BE]
  have hcL:∀ v L M,(((((H.push (cK B1 (v))).push (cK [] w0)).push (.cells [.slice .any 3 (S.fields.map aV),.slice .any 3 (S.headers.map aH),.slice .any 5 (S.states.map aL),.slice .any 5 (S.actions.map ax),.slice .any 8 ((jM 6).map az),.slice .any 2 [],.slice .any 6 [],.slice .any 6 ((rfs L).map bZ),.int .i64 S.maxBatch,.int .i64 S.budget])).push (.buf 8 6)).push (.cells (mxC M))).Closed:=fun v L M=>ae (bc (ae (ae (ae hcl fS) fS) (by
   simp only [znu,znv,and_true,zle]
   refine ⟨AV.lt_mono (by omega) _ a1,AV.lt_mono (by omega) _ a2,AV.lt_mono (by omega) _ a3,AV.lt_mono (by omega) _ a4,?_,by simp [cJ,znv],by simp [cJ,znv],?_,by simp [znf],by simp [znf]⟩
   ·rw [cJ];exact ⟨by simp,ltL_iff.2 fun j hj=>by rw [List.getElem_map];exact dp _⟩
   ·rw [cJ];exact ⟨by simp,ltL_iff.2 fun j hj=>by rw [List.getElem_map];exact s7 _⟩)) ) K0
  refine ay (A:=Nat × Nat × List (Nat × Nat) × Mx) (fun x=>[(3,.ptr H.nx 0),(4,.ptr (H.nx+1+1) 0),(6,.ptr (H.nx+1+1+1+1) 0),(7,.int .i64 (x.1:Int))]) (fun x=>((((H.push (cK B1 (x.2.1))).push (cK [] w0)).push (.cells [.slice .any 3 (S.fields.map aV),.slice .any 3 (S.headers.map aH),.slice .any 5 (S.states.map aL),.slice .any 5 (S.actions.map ax),.slice .any 8 ((jM 6).map az),.slice .any 2 [],.slice .any 6 [],.slice .any 6 ((rfs x.2.2.1).map bZ),.int .i64 S.maxBatch,.int .i64 S.budget])).push (.buf 8 6)).push (.cells (mxC x.2.2.2))) (fun x=>x.1≤8∧x.2.2.1.length≤x.1∧RIn x.2.2.1∧RInv x.2.2.1 x.2.2.2∧Dm x.2.2.2) (fun x=>8 - x.1) (0,cp 0 0,[],fun _ _=>false) ⟨by dsimp only;omega,by dsimp only;simp,MJ,Ml,fun a b h=>(Bool.false_ne_true h).elim⟩ ?_ fun x hx=>?_
  ·refine ⟨by simp only [zkq,zkv,zle];omega,lRq _,hcL _ _ _,?_,?_⟩
   ·simp [ltF,znf,znn,zle]
    omega
   ·simp [ba,wk2,wk1,wkM,Fr.get]
  obtain ⟨i,v,L,M⟩:=x
  obtain ⟨h8,hLi,hR,hI,hD⟩:=hx
  dsimp only at h8 hLi hR hI hD ⊢
  have hgC:∀ v (X Y Z:AObj),(((((H.push (cK B1 v)).push (cK [] w0)).push X).push Y).push Z).get H.nx=some (cK B1 v):=fun v X Y Z=>by simp only [go_sem]
  have hb7:∀ (c:Bool) ,(c&&true)=c:=fun c=>by cases c<;>rfl
  simp only [go_sem]
  by_cases hi8:i<8
  ·have d1:decide ((i:Int)<8)=true:=dtq (by omega)
   simp only [aJ,ag,bhq,Nat.reduceMod,Nat.reduceDiv,aC,aB,aD,aT,aE,aS,aP,aQ,aR,yaq,yar,yao,yap,go_sem,d1,oW,hgC]
   refine ⟨B1,((min v B1.length:Nat):Int),rfl,?_⟩
   cases hlf:decide (((min v B1.length:Nat):Int)<(B1.length:Int)) with
   |false =>
    simp only [aJ,ag,bhq,Nat.reduceMod,Nat.reduceDiv,aC,aB,aD,aT,aE,aS,aP,aQ,aR,yaq,yar,yao,yap,go_sem,lu]
    refine ⟨rfl,by repeat first|exact .refl _|refine .push ?_ _,hcl,by rw [zng];trivial⟩
   |true =>
    have hc1:=gS (b:=B1) (v:=min v B1.length) (n:=6) (by decide)
    have hc2:=gS (b:=B1) (v:=min (min v B1.length+1) B1.length) (n:=6) (by decide)
    have ef:IntKind.i64.wrap (1+((cv B1 (min v B1.length) 6:Nat):Int))=((cv B1 (min v B1.length) 6+1:Nat):Int):=by rw [wrap_i64]<;>omega
    have et:IntKind.i64.wrap (1+((cv B1 (min (min v B1.length+1) B1.length) 6:Nat):Int))=((cv B1 (min (min v B1.length+1) B1.length) 6+1:Nat):Int):=by rw [wrap_i64]<;>omega
    have hrl:(rfs L).length=L.length:=by unfold rfs;simp
    simp only [aJ,ag,bhq,Nat.reduceMod,Nat.reduceDiv,aC,aB,aD,aT,aE,aS,aP,aQ,aR,yaq,yar,yao,yap,go_sem,bH,hgC,bE hL1',Int.reduceToNat,iNq,ef,et,ybb,hrl]
    generalize hv2:min (min v B1.length+1) B1.length=v2 at *
    obtain ⟨f,hf⟩:∃ f,cv B1 (min v B1.length) 6+1=f:=⟨_,rfl⟩
    obtain ⟨t,ht⟩:∃ t,cv B1 v2 6+1=t:=⟨_,rfl⟩
    rw [hf,ht]
    have hf1:1≤f∧f≤6:=by omega
    have ht1:1≤t∧t≤6:=by omega
    have hok:∀ z∈(rfs L).map bZ,bQ z.cells=true:=fun z hz=>by
     obtain ⟨x,_,rfl⟩:=List.mem_map.1 hz;rfl
    refine ⟨⟨by decide,by decide⟩,⟨by decide,by decide⟩,⟨by omega,by omega,hok⟩,⟨by omega,by omega,fun z hz=>by rw [List.mem_singleton.1 hz];rfl⟩,?_⟩
    refine m0 (H.nx+1+1+1+1+1) (cs:=[.slice .any 3 (S.fields.map aV),.slice .any 3 (S.headers.map aH),.slice .any 5 (S.states.map aL),.slice .any 5 (S.actions.map ax),.slice .any 8 ((jM 6).map az),.slice .any 2 [],.slice .any 6 [],.slice (.own (H.nx+1+1+1+1+1+1)) 6 ((rfs L).map bZ++[.agg [.int .i64 (f:Int),.int .i64 0,.int .i64 0,.int .i64 0,.int .i64 (t:Int),.int .i64 0]]),.int .i64 S.maxBatch,.int .i64 S.budget]) [.slice .any 3 (S.fields.map aV),.slice .any 3 (S.headers.map aH),.slice .any 5 (S.states.map aL),.slice .any 5 (S.actions.map ax),.slice .any 8 ((jM 6).map az),.slice .any 2 [],.slice .any 6 [],.slice .any 6 ((rfs (L++[(f,t)])).map bZ),.int .i64 S.maxBatch,.int .i64 S.budget] (by simp only [go_sem]) ?_ ?_
    ·have hrf:(rfs L).map bZ++[.agg [.int .i64 (f:Int),.int .i64 0,.int .i64 0,.int .i64 0,.int .i64 (t:Int),.int .i64 0]]=(rfs (L++[(f,t)])).map bZ:=by
      unfold rfs
      rw [List.map_append,List.map_append];rfl
     rw [hrf]
     simp [dX,eK,dY,wkM,i6,lG]
    have hX:∀ x∈(rfs (L++[(f,t)])).map bZ,bQ x.cells=true:=fun z hz=>by
     obtain ⟨x,_,rfl⟩:=List.mem_map.1 hz;rfl
    obtain ⟨L2,hL2⟩:∃ L2,L++[(f,t)]=L2:=⟨_,rfl⟩
    rw [hL2] at hX ⊢
    have hRL2:RIn L2:=by
     rw [← hL2]
     intro r hr
     rcases List.mem_append.1 hr with hr|hr
     ·exact hR r hr
     ·rw [List.mem_singleton.1 hr];exact ⟨hf1,ht1⟩
    have hL2l:L2.length=L.length+1:=by rw [← hL2];simp
    obtain ⟨hen1,hen2⟩:=Di hRL2 (by omega)
    have hel:(eD (chS (rfs L2))).b.length≤b8:=by rw [bj];omega
    have hck:=zg (L:=L) hI hR (by omega) hf1 ht1
    rw [hL2] at hck
    have hsC:aO (chS (rfs L2))=[.slice .any 3 (S.fields.map aV),.slice .any 3 (S.headers.map aH),.slice .any 5 (S.states.map aL),.slice .any 5 (S.actions.map ax),.slice .any 8 ((jM 6).map az),.slice .any 2 [],.slice .any 6 [],.slice .any 6 ((rfs L2).map bZ),.int .i64 S.maxBatch,.int .i64 S.budget]:=by rw [← hS];rfl
    have hgM:=sq (M:=M) (a:=t) (b:=f) (d:=.junk) (by omega) (by omega)
    have e1:((8:Int)==8)=true:=rfl
    have e2:((8:Int)==0)=false:=rfl
    have e3:((0:Int)==8)=false:=rfl
    have e4:((0:Int)==0)=true:=rfl
    have q1:(true==true)=true:=rfl
    have q2:(true==false)=false:=rfl
    have q3:(false==true)=false:=rfl
    have q4:(false==false)=true:=rfl
    have q5:(true != true)=false:=rfl
    have q6:(true != false)=true:=rfl
    have q7:(false != true)=true:=rfl
    have q8:(false != false)=false:=rfl
    have e5:IntKind.i64.wrap ((i:Int)+1)=((i+1:Nat):Int):=by rw [wrap_i64]<;>omega
    have hbd:mv M f t=(((f:Int)==(t:Int))||M t f):=by
     unfold mv
     rw [show ((f:Int)==(t:Int))=(f==t) by rw [Bool.eq_iff_iff];simp only [beq_iff_eq];omega]
    rw [hbd] at hck
    cases hft:((f:Int)==(t:Int)) with
    |true =>
     rw [hft,Bool.true_or,if_pos rfl] at hck
     simp only [aJ,ag,bhq,Nat.reduceMod,Nat.reduceDiv,aC,aB,aD,aT,aE,aS,aP,aQ,aR,yaq,yar,yao,yap,go_sem,hft,iB]
     refine ⟨chS (rfs L2),⟨hsC.symm,sc _,hel⟩,?_⟩
     rw [hck]
     simp only [aJ,ag,bhq,Nat.reduceMod,Nat.reduceDiv,aC,aB,aD,aT,aE,aS,aP,aQ,aR,yaq,yar,yao,yap,go_sem,iB,e1,e2,q1,q2,q3,q4,q5,q6,q7,q8]
     refine ⟨chS (rfs L2),⟨hsC.symm,sc _,hel⟩,?_⟩
     rw [hck]
     simp only [aJ,ag,bhq,Nat.reduceMod,Nat.reduceDiv,aC,aB,aD,aT,aE,aS,aP,aQ,aR,yaq,yar,yao,yap,go_sem,iB,e1,e2,q1,q2,q3,q4,q5,q6,q7,q8,e5]
     refine ⟨(i+1,v2+1,L,M),⟨by dsimp only;omega,by dsimp only;omega,hR,hI,hD⟩,by dsimp only;omega,?_⟩
     refine ⟨by simp only [zle];omega,by repeat first|exact .refl _|refine .push ?_ _,hcL _ _ _,?_,?_⟩
     ·simp [ltF,znf,znn,zle]
      omega
     ·simp [ba,wk2,wk1,wkM,Fr.get]
    |false =>
     cases hm:M t f with
     |true =>
      rw [hft,hm,Bool.false_or,if_pos rfl] at hck
      rw [hm] at hgM
      simp only [aJ,ag,bhq,Nat.reduceMod,Nat.reduceDiv,aC,aB,aD,aT,aE,aS,aP,aQ,aR,yaq,yar,yao,yap,go_sem,hft,iB,hgM]
      refine ⟨⟨by omega,by omega⟩,⟨by omega,by omega⟩,by rw [sV];omega,chS (rfs L2),⟨hsC.symm,sc _,hel⟩,?_⟩
      rw [hck]
      simp only [aJ,ag,bhq,Nat.reduceMod,Nat.reduceDiv,aC,aB,aD,aT,aE,aS,aP,aQ,aR,yaq,yar,yao,yap,go_sem,iB,e1,e2,q1,q2,q3,q4,q5,q6,q7,q8]
      refine ⟨chS (rfs L2),⟨hsC.symm,sc _,hel⟩,?_⟩
      rw [hck]
      simp only [aJ,ag,bhq,Nat.reduceMod,Nat.reduceDiv,aC,aB,aD,aT,aE,aS,aP,aQ,aR,yaq,yar,yao,yap,go_sem,iB,e1,e2,q1,q2,q3,q4,q5,q6,q7,q8,e5]
      refine ⟨(i+1,v2+1,L,M),⟨by dsimp only;omega,by dsimp only;omega,hR,hI,hD⟩,by dsimp only;omega,?_⟩
      refine ⟨by simp only [zle];omega,by repeat first|exact .refl _|refine .push ?_ _,hcL _ _ _,?_,?_⟩
      ·simp [ltF,znf,znn,zle]
       omega
      ·simp [ba,wk2,wk1,wkM,Fr.get]
     |false =>
      rw [hft,hm,Bool.false_or,if_neg Bool.false_ne_true] at hck
      rw [hm] at hgM
      simp only [aJ,ag,bhq,Nat.reduceMod,Nat.reduceDiv,aC,aB,aD,aT,aE,aS,aP,aQ,aR,yaq,yar,yao,yap,go_sem,hft,iB,hgM]
      refine ⟨⟨by omega,by omega⟩,⟨by omega,by omega⟩,by rw [sV];omega,chS (rfs L2),⟨hsC.symm,sc _,hel⟩,?_⟩
      rw [hck]
      simp only [aJ,ag,bhq,Nat.reduceMod,Nat.reduceDiv,aC,aB,aD,aT,aE,aS,aP,aQ,aR,yaq,yar,yao,yap,go_sem,iB,e3,e4,q1,q2,q3,q4,q5,q6,q7,q8]
      refine ⟨chS (rfs L2),⟨hsC.symm,sc _,hel⟩,?_⟩
      rw [hck]
      simp only [aJ,ag,bhq,Nat.reduceMod,Nat.reduceDiv,aC,aB,aD,aT,aE,aS,aP,aQ,aR,yaq,yar,yao,yap,go_sem,iB,e3,e4,q1,q2,q3,q4,q5,q6,q7,q8,e5]
      refine ay (A:=Nat) (fun x=>[(3,.ptr H.nx 0),(4,.ptr (H.nx+1+1) 0),(6,.ptr (H.nx+1+1+1+1) 0),(7,.int .i64 (i:Int)),(8,.int .i64 (f:Int)),(9,.int .i64 (t:Int)),(12,.int .i64 (x:Int))]) (fun x=>((((H.push (cK B1 (v2+1))).push (cK [] w0)).push (.cells [.slice .any 3 (S.fields.map aV),.slice .any 3 (S.headers.map aH),.slice .any 5 (S.states.map aL),.slice .any 5 (S.actions.map ax),.slice .any 8 ((jM 6).map az),.slice .any 2 [],.slice .any 6 [],.slice .any 6 ((rfs L2).map bZ),.int .i64 S.maxBatch,.int .i64 S.budget])).push (.buf 8 6)).push (.cells (mxC (iy M f t x 1)))) (fun x=>1≤x∧x≤7) (fun x=>7 - x) 1 (by omega) ?_ fun x hx=>?_
      ·rw [zy hD hf1 ht1]
       refine ⟨by simp only [zkq,zkv,zle];omega,by repeat first|exact .refl _|refine .push ?_ _,hcL _ _ _,?_,?_⟩
       ·simp [ltF,znf,znn,zle]
        omega
       ·simp [ba,wk2,wk1,wkM,Fr.get]
      obtain ⟨hx1,hx7⟩:=hx
      simp only [go_sem]
      refine ah (fun hc=>?_) (fun hc=>?_)
      ·have hx6:x≤6:=by simp at hc;omega
       simp only [aJ,ag,bhq,Nat.reduceMod,Nat.reduceDiv,aC,aB,aD,aT,aE,aS,aP,aQ,aR,yaq,yar,yao,yap,go_sem]
       refine ay (A:=Nat) (fun y=>[(3,.ptr H.nx 0),(4,.ptr (H.nx+1+1) 0),(6,.ptr (H.nx+1+1+1+1) 0),(7,.int .i64 (i:Int)),(8,.int .i64 (f:Int)),(9,.int .i64 (t:Int)),(12,.int .i64 (x:Int)),(13,.int .i64 (y:Int))]) (fun y=>((((H.push (cK B1 (v2+1))).push (cK [] w0)).push (.cells [.slice .any 3 (S.fields.map aV),.slice .any 3 (S.headers.map aH),.slice .any 5 (S.states.map aL),.slice .any 5 (S.actions.map ax),.slice .any 8 ((jM 6).map az),.slice .any 2 [],.slice .any 6 [],.slice .any 6 ((rfs L2).map bZ),.int .i64 S.maxBatch,.int .i64 S.budget])).push (.buf 8 6)).push (.cells (mxC (iy M f t x y)))) (fun y=>1≤y∧y≤7) (fun y=>7 - y) 1 (by omega) ?_ fun y hy=>?_
       ·refine ⟨by simp only [zkq,zkv,zle];omega,by repeat first|exact .refl _|refine .push ?_ _,hcL _ _ _,?_,?_⟩
        ·simp [ltF,znf,znn,zle]
         omega
        ·simp [ba,wk2,wk1,wkM,Fr.get]
       obtain ⟨hy1,hy7⟩:=hy
       simp only [go_sem]
       refine ah (fun hc2=>?_) (fun hc2=>?_)
       ·have hy6:y≤6:=by simp at hc2;omega
        have e6:IntKind.i64.wrap ((y:Int)+1)=((y+1:Nat):Int):=by rw [wrap_i64]<;>omega
        have hg1:=sq (M:=iy M f t x y) (a:=x) (b:=f) (d:=.junk) (by omega) (by omega)
        have hg2:=sq (M:=iy M f t x y) (a:=t) (b:=y) (d:=.junk) (by omega) (by omega)
        have hb0:mv M f t=false:=by rw [hbd,hft,hm];rfl
        rw [LQ hb0] at hg1
        rw [LR hb0] at hg2
        have i1:((x:Int)==(f:Int))=(x==f):=by rw [Bool.eq_iff_iff];simp only [beq_iff_eq];omega
        have i2:((y:Int)==(t:Int))=(y==t):=by rw [Bool.eq_iff_iff];simp only [beq_iff_eq];omega
        have hln:=sV (M:=iy M f t x y)
        cases c1:(x==f) with
        |true =>
         cases c2:(y==t) with
         |true =>
          have hcd:((x==f||M x f)&&(y==t||M t y))=true:=by rw [c1,c2];rfl
          simp only [aJ,ag,bhq,Nat.reduceMod,Nat.reduceDiv,aC,aB,aD,aT,aE,aS,aP,aQ,aR,yaq,yar,yao,yap,go_sem,i1,i2,c1,c2,e6,hln]
          (repeat with_reducible refine And.intro (by first|omega|exact ⟨by omega,by omega⟩) ?_)
          refine ⟨y+1,by omega,by omega,?_⟩
          rw [gX _ _ _,oS (by omega) (by omega) (lr hcd)]
          refine ⟨by simp only [zle];omega,by repeat first|exact .refl _|refine .push ?_ _,hcL _ _ _,?_,?_⟩
          ·simp [ltF,znf,znn,zle]
           omega
          ·simp [ba,wk2,wk1,wkM,Fr.get]
         |false =>
          cases c4:M t y with
          |true =>
           rw [c4] at hg2
           have hcd:((x==f||M x f)&&(y==t||M t y))=true:=by rw [c1,c2,c4];rfl
           simp only [aJ,ag,bhq,Nat.reduceMod,Nat.reduceDiv,aC,aB,aD,aT,aE,aS,aP,aQ,aR,yaq,yar,yao,yap,go_sem,i1,i2,c1,c2,hg2,e6,hln]
           (repeat with_reducible refine And.intro (by first|omega|exact ⟨by omega,by omega⟩) ?_)
           refine ⟨y+1,by omega,by omega,?_⟩
           rw [gX _ _ _,oS (by omega) (by omega) (lr hcd)]
           refine ⟨by simp only [zle];omega,by repeat first|exact .refl _|refine .push ?_ _,hcL _ _ _,?_,?_⟩
           ·simp [ltF,znf,znn,zle]
            omega
           ·simp [ba,wk2,wk1,wkM,Fr.get]
          |false =>
           rw [c4] at hg2
           have hcd:((x==f||M x f)&&(y==t||M t y))=false:=by rw [c1,c2,c4];rfl
           simp only [aJ,ag,bhq,Nat.reduceMod,Nat.reduceDiv,aC,aB,aD,aT,aE,aS,aP,aQ,aR,yaq,yar,yao,yap,go_sem,i1,i2,c1,c2,hg2,e6,hln]
           (repeat with_reducible refine And.intro (by first|omega|exact ⟨by omega,by omega⟩) ?_)
           refine ⟨y+1,by omega,by omega,?_⟩
           rw [qH hcd]
           refine ⟨by simp only [zle];omega,by repeat first|exact .refl _|refine .push ?_ _,hcL _ _ _,?_,?_⟩
           ·simp [ltF,znf,znn,zle]
            omega
           ·simp [ba,wk2,wk1,wkM,Fr.get]
        |false =>
         cases c3:M x f with
         |true =>
          rw [c3] at hg1
          cases c2:(y==t) with
          |true =>
           have hcd:((x==f||M x f)&&(y==t||M t y))=true:=by rw [c1,c3,c2];rfl
           simp only [aJ,ag,bhq,Nat.reduceMod,Nat.reduceDiv,aC,aB,aD,aT,aE,aS,aP,aQ,aR,yaq,yar,yao,yap,go_sem,i1,i2,c1,c2,hg1,e6,hln]
           (repeat with_reducible refine And.intro (by first|omega|exact ⟨by omega,by omega⟩) ?_)
           refine ⟨y+1,by omega,by omega,?_⟩
           rw [gX _ _ _,oS (by omega) (by omega) (lr hcd)]
           refine ⟨by simp only [zle];omega,by repeat first|exact .refl _|refine .push ?_ _,hcL _ _ _,?_,?_⟩
           ·simp [ltF,znf,znn,zle]
            omega
           ·simp [ba,wk2,wk1,wkM,Fr.get]
          |false =>
           cases c4:M t y with
           |true =>
            rw [c4] at hg2
            have hcd:((x==f||M x f)&&(y==t||M t y))=true:=by rw [c1,c3,c2,c4];rfl
            simp only [aJ,ag,bhq,Nat.reduceMod,Nat.reduceDiv,aC,aB,aD,aT,aE,aS,aP,aQ,aR,yaq,yar,yao,yap,go_sem,i1,i2,c1,c2,hg1,hg2,e6,hln]
            (repeat with_reducible refine And.intro (by first|omega|exact ⟨by omega,by omega⟩) ?_)
            refine ⟨y+1,by omega,by omega,?_⟩
            rw [gX _ _ _,oS (by omega) (by omega) (lr hcd)]
            refine ⟨by simp only [zle];omega,by repeat first|exact .refl _|refine .push ?_ _,hcL _ _ _,?_,?_⟩
            ·simp [ltF,znf,znn,zle]
             omega
            ·simp [ba,wk2,wk1,wkM,Fr.get]
           |false =>
            rw [c4] at hg2
            have hcd:((x==f||M x f)&&(y==t||M t y))=false:=by rw [c1,c3,c2,c4];rfl
            simp only [aJ,ag,bhq,Nat.reduceMod,Nat.reduceDiv,aC,aB,aD,aT,aE,aS,aP,aQ,aR,yaq,yar,yao,yap,go_sem,i1,i2,c1,c2,hg1,hg2,e6,hln]
            (repeat with_reducible refine And.intro (by first|omega|exact ⟨by omega,by omega⟩) ?_)
            refine ⟨y+1,by omega,by omega,?_⟩
            rw [qH hcd]
            refine ⟨by simp only [zle];omega,by repeat first|exact .refl _|refine .push ?_ _,hcL _ _ _,?_,?_⟩
            ·simp [ltF,znf,znn,zle]
             omega
            ·simp [ba,wk2,wk1,wkM,Fr.get]
         |false =>
          rw [c3] at hg1
          have hcd:((x==f||M x f)&&(y==t||M t y))=false:=by rw [c1,c3];rfl
          simp only [aJ,ag,bhq,Nat.reduceMod,Nat.reduceDiv,aC,aB,aD,aT,aE,aS,aP,aQ,aR,yaq,yar,yao,yap,go_sem,i1,i2,c1,hg1,e6,hln]
          (repeat with_reducible refine And.intro (by first|omega|exact ⟨by omega,by omega⟩) ?_)
          refine ⟨y+1,by omega,by omega,?_⟩
          rw [qH hcd]
          refine ⟨by simp only [zle];omega,by repeat first|exact .refl _|refine .push ?_ _,hcL _ _ _,?_,?_⟩
          ·simp [ltF,znf,znn,zle]
           omega
          ·simp [ba,wk2,wk1,wkM,Fr.get]
       ·have hy':y=7:=by simp at hc2;omega
        subst hy'
        have e6:IntKind.i64.wrap ((x:Int)+1)=((x+1:Nat):Int):=by rw [wrap_i64]<;>omega
        simp only [aJ,ag,bhq,Nat.reduceMod,Nat.reduceDiv,aC,aB,aD,aT,aE,aS,aP,aQ,aR,yaq,yar,yao,yap,go_sem,e6]
        refine ⟨x+1,by omega,by omega,?_⟩
        rw [Jc hD hf1 ht1]
        refine ⟨by simp only [zle];omega,by repeat first|exact .refl _|refine .push ?_ _,hcL _ _ _,?_,?_⟩
        ·simp [ltF,znf,znn,zle]
         omega
        ·simp [ba,wk2,wk1,wkM,Fr.get]
      ·have hx':x=7:=by simp at hc;omega
       subst hx'
       simp only [aJ,ag,bhq,Nat.reduceMod,Nat.reduceDiv,aC,aB,aD,aT,aE,aS,aP,aQ,aR,yaq,yar,yao,yap,go_sem,e5]
       refine ⟨(i+1,v2+1,L2,oK M f t),⟨by dsimp only;omega,by dsimp only;omega,hRL2,by rw [← hL2];exact Cp hI (by rw [hbd,hft,hm];rfl),FJ hD hf1 ht1⟩,by dsimp only;omega,?_⟩
       rw [IX hD hf1 ht1]
       refine ⟨by simp only [zkq,zkv,zle];omega,by repeat first|exact .refl _|refine .push ?_ _,hcL _ _ _,?_,?_⟩
       ·simp [ltF,znf,znn,zle]
        omega
       ·simp [ba,wk2,wk1,wkM,Fr.get]
  ·have d1:decide ((i:Int)<8)=false:=dfq (by omega)
   simp only [aJ,ag,bhq,Nat.reduceMod,Nat.reduceDiv,aC,aB,aD,aT,aE,aS,aP,aQ,aR,yaq,yar,yao,yap,go_sem,d1,lu]
   refine ⟨rfl,by repeat first|exact .refl _|refine .push ?_ _,hcl,by rw [zng];trivial⟩
end Go.AL
