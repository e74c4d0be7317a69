/- Contracts and plain laws, a part of the proof; no condition of its own. -/
import Derived.Test.YtiiiljghmilepaaGreatW03j
set_option maxHeartbeats 32000000
open List renaming length_cons → yaz, length_nil → yba, take_succ_cons → yaq, take_zero → yar, drop_succ_cons → yao, drop_zero → yap, length_map → ybb
open Go Go.AL Go.Proofs
namespace Go.AL
set_option linter.all false
set_option maxRecDepth 10000
theorem Bo:ti Tryz.prog 35=some ⟨.struct [(0,26,false),(1,27,false),(2,28,false),(3,29,false),(4,30,false),(5,31,false),(6,32,false),(7,33,false),(8,3,false),(9,3,false)],10,208,.agg [.slice .nil 1 [],.slice .nil 1 [],.slice .nil 1 [],.slice .nil 1 [],.slice .nil 1 [],.slice .nil 1 [],.slice .nil 1 [],.slice .nil 1 [],.int .i64 0,.int .i64 0]⟩:=by kernel_rfl
attribute [go_sem] Bo
theorem kZ {n sz:Nat}:AV.lt n (.slice .any sz []):=tC fun x hx=>absurd hx (by simp)
/-- what Encode returns -/
def t6 (x:Sch):List UInt8 × Int :=
 if (gZ x).l=true then ([],3) else if (gZ x).f=true then ([],2) else if (gZ x).a=true then ([],4) else if 8000<(gZ x).b.length then ([],3) else ((gZ x).b,0)
def A5:List AV→AHeap→(AV→Prop)→Prop
 |[.agg l],_,K=>∃ x:Sch,(l=bL x∧OkSch x∧(gZ x).b.length≤cR)∧K (.tup [.slice .any 1 (bys (t6 x).1),.int .i64 (t6 x).2])
 |_,_,_=>False
theorem SOn.leq {H HB:AHeap} {id q:Nat} {s0 s:Enc} (hW:SOn HB id q s0) (hle:H.Le HB) (h1:H.nx≤id) (h2:H.nx≤q):H.Le (swH HB id q s):=by
 refine ⟨hle.nx,fun j x hj=>?_⟩
 have hj2:=AHeap.get_lt hj
 unfold swH
 rw [AHeap.get_set_ne _ _ (by omega),AHeap.get_set_ne _ _ (by omega)]
 exact hle.get _ _ hj
theorem qN {x:Sch} {RE:List UInt8 × Int} (h:t6 x=RE) :
 ((gZ x).l=true∧RE=([],3))∨((gZ x).l=false∧(gZ x).f=true∧RE=([],2))∨((gZ x).l=false∧(gZ x).f=false∧(gZ x).a=true∧RE=([],4)) ∨
 ((gZ x).l=false∧(gZ x).f=false∧(gZ x).a=false∧8000<(gZ x).b.length∧RE=([],3))∨((gZ x).l=false∧(gZ x).f=false∧(gZ x).a=false∧(gZ x).b.length≤8000∧RE=((gZ x).b,0)):=by
 subst h
 unfold t6
 cases (gZ x).l<;>cases (gZ x).f<;>cases (gZ x).a<;>simp
 omega
/-- all that is written, in the order of the writing -/
theorem y7 (x:Sch):enc0.add (gZ x)=(((((((((enc0.add (bQ x.maxBatch 2)).add (bQ x.budget 2)).add (aT dT 32 x.fields)).add (aT dm 8 x.headers)).add (aT fk 12 x.states)).add (aT cQ 12 x.actions)).add (aT dX 8 x.tables)).add (aT fa 12 x.stages)).add (aT gL 6 x.roles)).add (aT kF 8 x.refs):=by
 unfold gZ dZ
 simp only [ap]
def yz:=A5
theorem FJ:EntOk Tryz.prog 15 (Ent.pure yz):=by
 unfold yz
 refine EntOk.pure fun args H K h=>?_
 unfold A5 at h
 split at h
 rotate_left
 ·exact h.elim
 rename_i l
 obtain ⟨x,⟨rfl,ha,hl⟩,hK⟩:=h
 refine ⟨_,hK,?_⟩
 clear hK
 refine ACalls.fW aB (TblOk.cons gW (TblOk.cons sc (TblOk.cons zN (TblOk.cons qY (TblOk.cons AA (TblOk.cons sj (TblOk.cons A8 (TblOk.cons sk (TblOk.cons AQ (TblOk.cons rH (TblOk.cons Ak (TblOk.cons rJ (TblOk.cons AR (TblOk.cons ri (TblOk.cons Bm (TblOk.cons sv (TblOk.cons zC TblOk.nil))))))))))))))))) Tryz.func15 [.tmp 2,.tmp 3] (Nat.le_refl _) (T:=ay [(4,[[],[],[],[0,2]]),(5,[[],[],[],[0,2]]),(6,[[],[],[],[0,2]]),(7,[[],[],[],[0,2]]),(8,[[],[],[],[0,2]]),(9,[[],[],[],[0,2]]),(10,[[],[],[],[0,2]]),(11,[[],[],[],[0,2]]),(2,[[1]])]) (h:=fun hcl hlt=>?_)
 clear hlt
 simp only [go_sem,bL,cN]
 refine ey 4 0 1 (cs:=[AV.slice .nil 1 [],.bool false,.bool false,.bool false]) rfl (by simp only [go_sem]) rfl ?_
 obtain ⟨HB,hHB⟩:∃ HB,HB=(((H.push (.cells (bL x))).push (.buf 1 0)).push (.cells (swC (H.nx+1+1+1) [] false false false))).push (.buf 1 0):=⟨_,rfl⟩
 have hnB:HB.nx=H.nx+1+1+1+1:=by rw [hHB];rfl
 have hW:SOn HB (H.nx+1+1) (H.nx+1+1+1) enc0:=by
  rw [hHB]
  exact ⟨by simp [zlb,zky,zlf,swC,enc0],by simp [zlb,zky,enc0]⟩
 have hcB:HB.Closed:=by
  have h1:=bS (i:=H.nx+1+1) (cs:=swC (H.nx+1+1+1) [] false false false) (aP (a:=1) (b:=0) (ag (cs:=[]) (aP (a:=1) (b:=0) (ag (cs:=bL x) hcl (by have:=ks (n:=H.nx+1) x;simp only [cN,znl] at this;exact this))) trivial)) (by simp only [swC,zno,znp,zna,and_true,zky];rw [aH];exact ⟨fun id h=>(by cases h;omega),trivial⟩)
  simp only [go_sem] at h1
  rw [hHB];exact h1
 have hcr:aO HB H.nx=some (bL x):=by rw [hHB];simp only [go_sem]
 have hle:H.Le HB:=by rw [hHB];repeat first|exact .refl _|refine .push ?_ _
 have hcw:∀ s,aO (swH HB (H.nx+1+1) (H.nx+1+1+1) s) H.nx=some (bL x):=fun s=>by rw [s5 (by omega) (by omega),hcr]
 have hcI:∀ s,aO (swH HB (H.nx+1+1) (H.nx+1+1+1) s) (H.nx+1+1)=some (swC (H.nx+1+1+1) s.b s.l s.f s.a):=fun s=>aI (hW.next s).o
 have hlW:∀ s,H.Le (swH HB (H.nx+1+1) (H.nx+1+1+1) s):=fun s=>hW.leq hle (by omega) (by omega)
 have hcl1:=fun t=>hW.closed (t:=t) hcB
 have hF:=hW.facts
 simp only [bhq,Nat.reduceMod,Nat.reduceDiv,aY,aZ,a0,cb,a9,bY,ca,bV,bW,yaq,yar,yao,yap,go_sem,zlf,List.set_cons_zero]
 rw [show (((H.push (.cells [.slice .any 3 (x.fields.map ar),.slice .any 3 (x.headers.map aj),.slice .any 5 (x.states.map ak),.slice .any 5 (x.actions.map ah),.slice .any 8 (x.tables.map aq),.slice .any 2 (x.stages.map az),.slice .any 6 (x.roles.map aJ),.slice .any 6 (x.refs.map aR),.int .i64 x.maxBatch,.int .i64 x.budget])).push (.buf 1 0)).push (.cells [.slice (.own (H.nx+1+1+1)) 1 [],.bool false,.bool false,.bool false])).push (.buf 1 0)=HB from hHB.symm]
 clear hHB
 obtain ⟨RE,hRE⟩:∃ RE,t6 x=RE:=⟨_,rfl⟩
 have hR:=qN hRE
 rw [hRE]
 have hTot:=y7 x
 rw [rj] at hTot
 rw [hTot] at hl
 have hl10:=hl
 have hl9:=aF hl10
 have hl8:=aF hl9
 have hl7:=aF hl8
 have hl6:=aF hl7
 have hl5:=aF hl6
 have hl4:=aF hl5
 have hl3:=aF hl4
 have hl2:=aF hl3
 have hl1:=aF hl2
 try simp only [go_sem,hcw,hcI,swC,bL,af,hnB,ybb,hcr,im,ip,hP,ii,ig,io,hU,ic]
 refine cB (.inr rfl) hW hl1 ?_
 simp only [go_sem,hcw,hcI,swC,bL,af,hnB,ybb,im,ip,hP,ii,ig,io,hU,ic]
 refine cB (.inr rfl) (hW.next _) hl2 ?_
 rw [hF.pp]
 simp only [go_sem,hcw,hcI,swC,bL,af,hnB,ybb,im,ip,hP,ii,ig,io,hU,ic]
 refine jy (c:=ar) (ha.f) (hW.next _) hl3 ?_
 rw [hF.pp]
 simp only [go_sem,hcw,hcI,swC,bL,af,hnB,ybb,im,ip,hP,ii,ig,io,hU,ic]
 refine jy (c:=aj) (ha.h) (hW.next _) hl4 ?_
 rw [hF.pp]
 simp only [go_sem,hcw,hcI,swC,bL,af,hnB,ybb,im,ip,hP,ii,ig,io,hU,ic]
 refine jy (c:=ak) (ha.s) (hW.next _) hl5 ?_
 rw [hF.pp]
 simp only [go_sem,hcw,hcI,swC,bL,af,hnB,ybb,im,ip,hP,ii,ig,io,hU,ic]
 refine jy (c:=ah) (ha.a) (hW.next _) hl6 ?_
 rw [hF.pp]
 simp only [go_sem,hcw,hcI,swC,bL,af,hnB,ybb,im,ip,hP,ii,ig,io,hU,ic]
 refine jy (c:=aq) (ha.t) (hW.next _) hl7 ?_
 rw [hF.pp]
 simp only [go_sem,hcw,hcI,swC,bL,af,hnB,ybb,im,ip,hP,ii,ig,io,hU,ic]
 refine jy (c:=az) (fun _ _=>trivial) (hW.next _) hl8 ?_
 rw [hF.pp]
 simp only [go_sem,hcw,hcI,swC,bL,af,hnB,ybb,im,ip,hP,ii,ig,io,hU,ic]
 refine jy (c:=aJ) (ha.r) (hW.next _) hl9 ?_
 rw [hF.pp]
 simp only [go_sem,hcw,hcI,swC,bL,af,hnB,ybb,im,ip,hP,ii,ig,io,hU,ic]
 refine jy (c:=aR) (fun _ _=>trivial) (hW.next _) hl10 ?_
 rw [hF.pp]
 rw [← hTot]
 rcases hR with ⟨h1,rfl⟩|⟨h1,h2,rfl⟩|⟨h1,h2,h3,rfl⟩|⟨h1,h2,h3,h4,rfl⟩|⟨h1,h2,h3,h4,rfl⟩
 ·skip
  try simp only [go_sem,hcw,hcI,swC,bL,af,hnB,ybb,h1,zle]
  try (repeat with_reducible refine And.intro (by first|exact True.intro|decide|omega|(simp [zik,zgl,zgm,zgn,zgp,zgo,zgt];first|done|omega)) ?_)
  refine ⟨?_,by first|exact hlW _|(repeat refine AHeap.Le.push ?_ _;exact hlW _),hcl,?_⟩
  ·simp [wk,wk2,wk1,aG,wkM,zlf]
  ·simp [znm,zno,znp,zmm,zmz,zlf,kZ]
 ·skip
  try simp only [go_sem,hcw,hcI,swC,bL,af,hnB,ybb,h1,h2,zle]
  try (repeat with_reducible refine And.intro (by first|exact True.intro|decide|omega|(simp [zik,zgl,zgm,zgn,zgp,zgo,zgt];first|done|omega)) ?_)
  refine ⟨?_,by first|exact hlW _|(repeat refine AHeap.Le.push ?_ _;exact hlW _),hcl,?_⟩
  ·simp [wk,wk2,wk1,aG,wkM,zlf]
  ·simp [znm,zno,znp,zmm,zmz,zlf,kZ]
 ·skip
  try simp only [go_sem,hcw,hcI,swC,bL,af,hnB,ybb,h1,h2,h3,zle]
  try (repeat with_reducible refine And.intro (by first|exact True.intro|decide|omega|(simp [zik,zgl,zgm,zgn,zgp,zgo,zgt];first|done|omega)) ?_)
  refine ⟨?_,by first|exact hlW _|(repeat refine AHeap.Le.push ?_ _;exact hlW _),hcl,?_⟩
  ·simp [wk,wk2,wk1,aG,wkM,zlf]
  ·simp [znm,zno,znp,zmm,zmz,zlf,kZ]
 ·skip
  have d4:decide (((gZ x).b.length:Int) > 8000)=true:=decide_eq_true (by omega)
  try simp only [go_sem,hcw,hcI,swC,bL,af,hnB,ybb,h1,h2,h3,d4,zle]
  try (repeat with_reducible refine And.intro (by first|exact True.intro|decide|omega|(simp [zik,zgl,zgm,zgn,zgp,zgo,zgt];first|done|omega)) ?_)
  refine ⟨?_,by first|exact hlW _|(repeat refine AHeap.Le.push ?_ _;exact hlW _),hcl,?_⟩
  ·simp [wk,wk2,wk1,aG,wkM,zlf]
  ·simp [znm,zno,znp,zmm,zmz,zlf,kZ]
 ·skip
  have d4:decide (((gZ x).b.length:Int) > 8000)=false:=decide_eq_false (by omega)
  try simp only [go_sem,hcw,hcI,swC,bL,af,hnB,ybb,h1,h2,h3,d4,zle]
  try (repeat with_reducible refine And.intro (by first|exact True.intro|decide|omega|(simp [zik,zgl,zgm,zgn,zgp,zgo,zgt];first|done|omega)) ?_)
  refine ⟨?_,by first|exact hlW _|(repeat refine AHeap.Le.push ?_ _;exact hlW _),hcl,?_⟩
  ·simp [wk,wk2,wk1,aG,wkM,zlf]
  ·simp [znm,zno,znp,zmm,zmz,zlf,kZ]
end Go.AL
open Go Go.AL Go.Proofs
namespace Go.AL
set_option linter.all false
set_option maxRecDepth 10000
def x6:=A5
theorem Gv:EntOk Tryz.prog 7 (Ent.pure x6):=by
 unfold x6
 refine EntOk.pure fun args H K h=>?_
 unfold A5 at h
 split at h
 rotate_left
 ·exact h.elim
 rename_i l
 obtain ⟨x,⟨rfl,ha,hl⟩,hK⟩:=h
 refine ⟨_,hK,?_⟩
 clear hK
 refine ACalls.fW aB (TblOk.cons FV (TblOk.cons mT (TblOk.cons nk (TblOk.cons Fp (TblOk.cons Gq (TblOk.cons EX TblOk.nil)))))) Tryz.func7 [.tmp 2,.tmp 3] (Nat.le_refl _) (T:=ay [(2,[[1]])]) (h:=fun hcl hlt=>?_)
 clear hlt
 simp only [go_sem,bL,cN]
 refine ey 4 0 1 (cs:=[AV.slice .nil 1 [],.bool false,.bool false,.bool false]) rfl (by simp only [go_sem]) rfl ?_
 obtain ⟨HB,hHB⟩:∃ HB,HB=(((H.push (.cells (bL x))).push (.buf 1 0)).push (.cells (swC (H.nx+1+1+1) [] false false false))).push (.buf 1 0):=⟨_,rfl⟩
 have hnB:HB.nx=H.nx+1+1+1+1:=by rw [hHB];rfl
 have hW:SOn HB (H.nx+1+1) (H.nx+1+1+1) enc0:=by
  rw [hHB]
  exact ⟨by simp [zlb,zky,zlf,swC,enc0],by simp [zlb,zky,enc0]⟩
 have hcB:HB.Closed:=by
  have h1:=bS (i:=H.nx+1+1) (cs:=swC (H.nx+1+1+1) [] false false false) (aP (a:=1) (b:=0) (ag (cs:=[]) (aP (a:=1) (b:=0) (ag (cs:=bL x) hcl (by have:=ks (n:=H.nx+1) x;simp only [cN,znl] at this;exact this))) trivial)) (by simp only [swC,zno,znp,zna,and_true,zky];rw [aH];exact ⟨fun id h=>(by cases h;omega),trivial⟩)
  simp only [go_sem] at h1
  rw [hHB];exact h1
 have hcr:aO HB H.nx=some (bL x):=by rw [hHB];simp only [go_sem]
 have hle:H.Le HB:=by rw [hHB];repeat first|exact .refl _|refine .push ?_ _
 have hcw:∀ s,aO (swH HB (H.nx+1+1) (H.nx+1+1+1) s) H.nx=some (bL x):=fun s=>by rw [s5 (by omega) (by omega),hcr]
 have hcI:∀ s,aO (swH HB (H.nx+1+1) (H.nx+1+1+1) s) (H.nx+1+1)=some (swC (H.nx+1+1+1) s.b s.l s.f s.a):=fun s=>aI (hW.next s).o
 have hlW:∀ s,H.Le (swH HB (H.nx+1+1) (H.nx+1+1+1) s):=fun s=>hW.leq hle (by omega) (by omega)
 have hcl1:=fun t=>hW.closed (t:=t) hcB
 have hF:=hW.facts
 simp only [bhq,Nat.reduceMod,Nat.reduceDiv,aY,aZ,a0,cb,a9,bY,ca,bV,bW,yaq,yar,yao,yap,go_sem,zlf,List.set_cons_zero]
 rw [show (((H.push (.cells [.slice .any 3 (x.fields.map ar),.slice .any 3 (x.headers.map aj),.slice .any 5 (x.states.map ak),.slice .any 5 (x.actions.map ah),.slice .any 8 (x.tables.map aq),.slice .any 2 (x.stages.map az),.slice .any 6 (x.roles.map aJ),.slice .any 6 (x.refs.map aR),.int .i64 x.maxBatch,.int .i64 x.budget])).push (.buf 1 0)).push (.cells [.slice (.own (H.nx+1+1+1)) 1 [],.bool false,.bool false,.bool false])).push (.buf 1 0)=HB from hHB.symm]
 clear hHB
 obtain ⟨RE,hRE⟩:∃ RE,t6 x=RE:=⟨_,rfl⟩
 have hR:=qN hRE
 rw [hRE]
 have hTot:=y7 x
 rw [rj] at hTot
 have hPk:((((enc0.add (bQ x.maxBatch 2)).add (bQ x.budget 2)).add (aT dT 32 x.fields)).add (aT dm 8 x.headers)).add (aT fk 12 x.states)=((enc0.add (bQ x.maxBatch 2)).add (bQ x.budget 2)).add (dZ x):=by
  unfold dZ
  simp only [ap]
 rw [hPk] at hTot
 rw [hTot] at hl
 have hl8:=hl
 have hl7:=aF hl8
 have hl6:=aF hl7
 have hl5:=aF hl6
 have hl4:=aF hl5
 have hl3:=aF hl4
 have hl2:=aF hl3
 have hl1:=aF hl2
 try simp only [hcr,go_sem,hcw,hcI,swC,bL,af,hnB,ybb,bH,bJ,bD,bz,bE,bF,bI,bG,bK,bA,br,bw,bv,AV.cells,ah,aK,ar,ax,aj,aQ,aD,aL,aR,aJ,az,ak,aq,vc,inL,boL,af]
 refine cB (.inr rfl) hW hl1 ?_
 try simp only [go_sem,hcw,hcI,swC,bL,af,hnB,ybb,bH,bJ,bD,bz,bE,bF,bI,bG,bK,bA,br,bw,bv,AV.cells,ah,aK,ar,ax,aj,aQ,aD,aL,aR,aJ,az,ak,aq,vc,inL,boL,af]
 refine cB (.inr rfl) (hW.next _) hl2 ?_
 rw [hF.pp]
 try simp only [go_sem,hcw,hcI,swC,bL,af,hnB,ybb,bH,bJ,bD,bz,bE,bF,bI,bG,bK,bA,br,bw,bv,AV.cells,ah,aK,ar,ax,aj,aQ,aD,aL,aR,aJ,az,ak,aq,vc,inL,boL,af]
 refine mi (c:=cN) (ok:=OkSch) (g:=dZ) ha (hW.next _) hl3 ?_
 rw [hF.pp]
 have hE10:((((enc0.add (bQ x.maxBatch 2)).add (bQ x.budget 2)).add (dZ x))).add (aT cQ 12 x.actions)=(((((enc0.add (bQ x.maxBatch 2)).add (bQ x.budget 2)).add (dZ x))).add (cC x.actions.length 12)).add (bP cQ x.actions):=fL
 have hT10:=hl4
 rw [hE10] at hT10
 have hN10:=fA rp hT10
 try simp only [go_sem,hcw,hcI,swC,bL,af,hnB,ybb,bH,bJ,bD,bz,bE,bF,bI,bG,bK,bA,br,bw,bv,AV.cells,ah,aK,ar,ax,aj,aQ,aD,aL,aR,aJ,az,ak,aq,vc,inL,boL,af]
 refine j6 (hW.next _) (aF hT10) ?_
 rw [hF.pp]
 try simp only [go_sem,hcw,hcI,swC,bL,af,hnB,ybb,bH,bJ,bD,bz,bE,bF,bI,bG,bK,bA,br,bw,bv,AV.cells,ah,aK,ar,ax,aj,aQ,aD,aL,aR,aJ,az,ak,aq,vc,inL,boL,af]
 refine aA (A:=Nat) (fun k=>[(1,.ptr H.nx 0),(4,.ptr (H.nx+1+1) 0),(34,.slice .any 5 (x.actions.map (ah))),(35,.int .i64 (x.actions.length:Int)),(36,.int .i64 (k:Int))]) (fun k=>swH HB (H.nx+1+1) (H.nx+1+1+1) ((((((enc0.add (bQ x.maxBatch 2)).add (bQ x.budget 2)).add (dZ x))).add (cC x.actions.length 12)).add (bP cQ (x.actions.take k)))) (fun k=>k≤x.actions.length) (fun k=>x.actions.length - k) 0 (by omega) ?_ fun k1 hk1=>?_
 ·rw [yar,bP,cz]
  refine ⟨by simp only [zkk,zkp,zky,af];omega,by repeat first|exact .refl _|refine .push ?_ _,hcl1 _,?_,?_⟩
  ·simp [ltF,zky,af,znh,zmz,zna,aa,aa bO,aa bg,aa bX,aa bk,aa bC,aa bZ,aa ck,aa bN,aa cn,aa aS,aa aW,aa bh,aa aV,aa fun _=>ff,aa fun _=>of_eq_true zmz,aa fun _=>of_eq_true zna]
   try omega
  ·simp [bf,wk2,wk1,wkM,Fr.get]
 simp only [go_sem]
 refine ai (fun hc=>?_) (fun hc=>?_)
 ·have hk1':k1<x.actions.length:=by simp at hc;omega
  obtain ⟨x1,hx1⟩:∃ x1,x1=x.actions[k1]:=⟨_,rfl⟩
  have hg1:=bc (f:=ah) (l:=x.actions) (k:=k1) (x:=x1) (by rw [List.getElem?_eq_getElem hk1',hx1])
  have e15:IntKind.i64.wrap ((k1:Int)+1)=((k1+1:Nat):Int):=by rw [wrap_i64]<;>omega
  have ho1:=(ha.a) x1 (by rw [hx1];exact List.getElem_mem hk1')
  obtain ⟨es1,hlk1⟩:=cE (g:=cQ) hk1' hx1 hT10
  simp only [go_sem,hcw,hcI,swC,bL,Int.toNat_natCast,ybb,hg1,ah,af,hnB,ybb,bH,bJ,bD,bz,bE,bF,bI,bG,bK,bA,br,bw,bv,AV.cells,ah,aK,ar,ax,aj,aQ,aD,aL,aR,aJ,az,ak,aq,vc,inL,boL,af]
  refine ⟨by omega,?_⟩
  skip
  refine mi (c:=ah) (ho1) ((hW.next _).push _) hlk1 ?_
  rw [hF.p1]
  rw [es1]
  simp only [go_sem,e15]
  refine ⟨k1+1,by omega,by omega,by simp only [zkk,zkp,zky,af];omega,by repeat first|exact .refl _|refine .push ?_ _,hcl1 _,?_,?_⟩
  ·simp [ltF,zky,af,znh,zmz,zna,aa bO,aa bg,aa bX,aa bk,aa bC,aa bZ,aa ck,aa bN,aa cn,aa aS,aa aW,aa bh,aa aV,aa fun _=>ff,aa fun _=>of_eq_true zmz,aa fun _=>of_eq_true zna]
   try omega
  ·simp [bf,wk2,wk1,wkM,Fr.get]
 ·have hk1':k1=x.actions.length:=by simp at hc;omega
  subst hk1'
  rw [List.take_length]
  rw [← hE10]
  have hE11:((((((enc0.add (bQ x.maxBatch 2)).add (bQ x.budget 2)).add (dZ x))).add (aT cQ 12 x.actions))).add (aT dX 8 x.tables)=(((((((enc0.add (bQ x.maxBatch 2)).add (bQ x.budget 2)).add (dZ x))).add (aT cQ 12 x.actions))).add (cC x.tables.length 8)).add (bP dX x.tables):=fL
  have hT11:=hl5
  rw [hE11] at hT11
  have hN11:=fA sX hT11
  try simp only [go_sem,hcw,hcI,swC,bL,af,hnB,ybb,bH,bJ,bD,bz,bE,bF,bI,bG,bK,bA,br,bw,bv,AV.cells,ah,aK,ar,ax,aj,aQ,aD,aL,aR,aJ,az,ak,aq,vc,inL,boL,af]
  refine j6 (hW.next _) (aF hT11) ?_
  rw [hF.pp]
  try simp only [go_sem,hcw,hcI,swC,bL,af,hnB,ybb,bH,bJ,bD,bz,bE,bF,bI,bG,bK,bA,br,bw,bv,AV.cells,ah,aK,ar,ax,aj,aQ,aD,aL,aR,aJ,az,ak,aq,vc,inL,boL,af]
  refine aA (A:=Nat) (fun k=>[(1,.ptr H.nx 0),(4,.ptr (H.nx+1+1) 0),(50,.slice .any 8 (x.tables.map (aq))),(51,.int .i64 (x.tables.length:Int)),(52,.int .i64 (k:Int))]) (fun k=>swH HB (H.nx+1+1) (H.nx+1+1+1) ((((((((enc0.add (bQ x.maxBatch 2)).add (bQ x.budget 2)).add (dZ x))).add (aT cQ 12 x.actions))).add (cC x.tables.length 8)).add (bP dX (x.tables.take k)))) (fun k=>k≤x.tables.length) (fun k=>x.tables.length - k) 0 (by omega) ?_ fun k1 hk1=>?_
  ·rw [yar,bP,cz]
   refine ⟨by simp only [zkk,zkp,zky,af];omega,by repeat first|exact .refl _|refine .push ?_ _,hcl1 _,?_,?_⟩
   ·simp [ltF,zky,af,znh,zmz,zna,aa,aa bO,aa bg,aa bX,aa bk,aa bC,aa bZ,aa ck,aa bN,aa cn,aa aS,aa aW,aa bh,aa aV,aa fun _=>ff,aa fun _=>of_eq_true zmz,aa fun _=>of_eq_true zna]
    try omega
   ·simp [bf,wk2,wk1,wkM,Fr.get]
  simp only [go_sem]
  refine ai (fun hc=>?_) (fun hc=>?_)
  ·have hk1':k1<x.tables.length:=by simp at hc;omega
   obtain ⟨x1,hx1⟩:∃ x1,x1=x.tables[k1]:=⟨_,rfl⟩
   have hg1:=bc (f:=aq) (l:=x.tables) (k:=k1) (x:=x1) (by rw [List.getElem?_eq_getElem hk1',hx1])
   have e15:IntKind.i64.wrap ((k1:Int)+1)=((k1+1:Nat):Int):=by rw [wrap_i64]<;>omega
   have ho1:=(ha.t) x1 (by rw [hx1];exact List.getElem_mem hk1')
   obtain ⟨es1,hlk1⟩:=cE (g:=dX) hk1' hx1 hT11
   simp only [go_sem,hcw,hcI,swC,bL,Int.toNat_natCast,ybb,hg1,aq,af,hnB,ybb,bH,bJ,bD,bz,bE,bF,bI,bG,bK,bA,br,bw,bv,AV.cells,ah,aK,ar,ax,aj,aQ,aD,aL,aR,aJ,az,ak,aq,vc,inL,boL,af]
   refine ⟨by omega,?_⟩
   skip
   refine mi (c:=aq) (ho1) ((hW.next _).push _) hlk1 ?_
   rw [hF.p1]
   rw [es1]
   simp only [go_sem,e15]
   refine ⟨k1+1,by omega,by omega,by simp only [zkk,zkp,zky,af];omega,by repeat first|exact .refl _|refine .push ?_ _,hcl1 _,?_,?_⟩
   ·simp [ltF,zky,af,znh,zmz,zna,aa bO,aa bg,aa bX,aa bk,aa bC,aa bZ,aa ck,aa bN,aa cn,aa aS,aa aW,aa bh,aa aV,aa fun _=>ff,aa fun _=>of_eq_true zmz,aa fun _=>of_eq_true zna]
    try omega
   ·simp [bf,wk2,wk1,wkM,Fr.get]
  ·have hk1':k1=x.tables.length:=by simp at hc;omega
   subst hk1'
   rw [List.take_length]
   rw [← hE11]
   have hE12:((((((((enc0.add (bQ x.maxBatch 2)).add (bQ x.budget 2)).add (dZ x))).add (aT cQ 12 x.actions))).add (aT dX 8 x.tables))).add (aT fa 12 x.stages)=(((((((((enc0.add (bQ x.maxBatch 2)).add (bQ x.budget 2)).add (dZ x))).add (aT cQ 12 x.actions))).add (aT dX 8 x.tables))).add (cC x.stages.length 12)).add (bP fa x.stages):=fL
   have hT12:=hl6
   rw [hE12] at hT12
   have hN12:=fA tP hT12
   try simp only [go_sem,hcw,hcI,swC,bL,af,hnB,ybb,bH,bJ,bD,bz,bE,bF,bI,bG,bK,bA,br,bw,bv,AV.cells,ah,aK,ar,ax,aj,aQ,aD,aL,aR,aJ,az,ak,aq,vc,inL,boL,af]
   refine j6 (hW.next _) (aF hT12) ?_
   rw [hF.pp]
   try simp only [go_sem,hcw,hcI,swC,bL,af,hnB,ybb,bH,bJ,bD,bz,bE,bF,bI,bG,bK,bA,br,bw,bv,AV.cells,ah,aK,ar,ax,aj,aQ,aD,aL,aR,aJ,az,ak,aq,vc,inL,boL,af]
   refine aA (A:=Nat) (fun k=>[(1,.ptr H.nx 0),(4,.ptr (H.nx+1+1) 0),(66,.slice .any 2 (x.stages.map (az))),(67,.int .i64 (x.stages.length:Int)),(68,.int .i64 (k:Int))]) (fun k=>swH HB (H.nx+1+1) (H.nx+1+1+1) ((((((((((enc0.add (bQ x.maxBatch 2)).add (bQ x.budget 2)).add (dZ x))).add (aT cQ 12 x.actions))).add (aT dX 8 x.tables))).add (cC x.stages.length 12)).add (bP fa (x.stages.take k)))) (fun k=>k≤x.stages.length) (fun k=>x.stages.length - k) 0 (by omega) ?_ fun k1 hk1=>?_
   ·rw [yar,bP,cz]
    refine ⟨by simp only [zkk,zkp,zky,af];omega,by repeat first|exact .refl _|refine .push ?_ _,hcl1 _,?_,?_⟩
    ·simp [ltF,zky,af,znh,zmz,zna,aa,aa bO,aa bg,aa bX,aa bk,aa bC,aa bZ,aa ck,aa bN,aa cn,aa aS,aa aW,aa bh,aa aV,aa fun _=>ff,aa fun _=>of_eq_true zmz,aa fun _=>of_eq_true zna]
     try omega
    ·simp [bf,wk2,wk1,wkM,Fr.get]
   simp only [go_sem]
   refine ai (fun hc=>?_) (fun hc=>?_)
   ·have hk1':k1<x.stages.length:=by simp at hc;omega
    obtain ⟨x1,hx1⟩:∃ x1,x1=x.stages[k1]:=⟨_,rfl⟩
    have hg1:=bc (f:=az) (l:=x.stages) (k:=k1) (x:=x1) (by rw [List.getElem?_eq_getElem hk1',hx1])
    have e15:IntKind.i64.wrap ((k1:Int)+1)=((k1+1:Nat):Int):=by rw [wrap_i64]<;>omega
    obtain ⟨es1,hlk1⟩:=cE (g:=fa) hk1' hx1 hT12
    simp only [go_sem,hcw,hcI,swC,bL,Int.toNat_natCast,ybb,hg1,az,af,hnB,ybb,bH,bJ,bD,bz,bE,bF,bI,bG,bK,bA,br,bw,bv,AV.cells,ah,aK,ar,ax,aj,aQ,aD,aL,aR,aJ,az,ak,aq,vc,inL,boL,af]
    refine ⟨by omega,?_⟩
    rw [show fa x1=((bQ x1.table 2).add (bQ x1.header 2)) from rfl] at es1 hlk1
    rw [← ap] at hlk1
    rw [← ap] at es1
    have hm10:=aF hlk1
    try simp only [go_sem,hcw,hcI,swC,bL,Int.toNat_natCast,ybb,hg1,az,af,hnB,ybb,bH,bJ,bD,bz,bE,bF,bI,bG,bK,bA,br,bw,bv,AV.cells,ah,aK,ar,ax,aj,aQ,aD,aL,aR,aJ,az,ak,aq,vc,inL,boL,af]
    refine cB (.inr rfl) ((hW.next _).push _) hm10 ?_
    rw [hF.p1]
    try simp only [go_sem,hcw,hcI,swC,bL,Int.toNat_natCast,ybb,hg1,az,af,hnB,ybb,bH,bJ,bD,bz,bE,bF,bI,bG,bK,bA,br,bw,bv,AV.cells,ah,aK,ar,ax,aj,aQ,aD,aL,aR,aJ,az,ak,aq,vc,inL,boL,af]
    refine cB (.inr rfl) ((hW.next _).push _) hlk1 ?_
    rw [hF.p1]
    rw [es1]
    simp only [go_sem,e15]
    refine ⟨k1+1,by omega,by omega,by simp only [zkk,zkp,zky,af];omega,by repeat first|exact .refl _|refine .push ?_ _,hcl1 _,?_,?_⟩
    ·simp [ltF,zky,af,znh,zmz,zna,aa bO,aa bg,aa bX,aa bk,aa bC,aa bZ,aa ck,aa bN,aa cn,aa aS,aa aW,aa bh,aa aV,aa fun _=>ff,aa fun _=>of_eq_true zmz,aa fun _=>of_eq_true zna]
     try omega
    ·simp [bf,wk2,wk1,wkM,Fr.get]
   ·have hk1':k1=x.stages.length:=by simp at hc;omega
    subst hk1'
    rw [List.take_length]
    rw [← hE12]
    have hE13:((((((((((enc0.add (bQ x.maxBatch 2)).add (bQ x.budget 2)).add (dZ x))).add (aT cQ 12 x.actions))).add (aT dX 8 x.tables))).add (aT fa 12 x.stages))).add (aT gL 6 x.roles)=(((((((((((enc0.add (bQ x.maxBatch 2)).add (bQ x.budget 2)).add (dZ x))).add (aT cQ 12 x.actions))).add (aT dX 8 x.tables))).add (aT fa 12 x.stages))).add (cC x.roles.length 6)).add (bP gL x.roles):=fL
    have hT13:=hl7
    rw [hE13] at hT13
    have hN13:=fA vq hT13
    try simp only [go_sem,hcw,hcI,swC,bL,af,hnB,ybb,bH,bJ,bD,bz,bE,bF,bI,bG,bK,bA,br,bw,bv,AV.cells,ah,aK,ar,ax,aj,aQ,aD,aL,aR,aJ,az,ak,aq,vc,inL,boL,af]
    refine j6 (hW.next _) (aF hT13) ?_
    rw [hF.pp]
    try simp only [go_sem,hcw,hcI,swC,bL,af,hnB,ybb,bH,bJ,bD,bz,bE,bF,bI,bG,bK,bA,br,bw,bv,AV.cells,ah,aK,ar,ax,aj,aQ,aD,aL,aR,aJ,az,ak,aq,vc,inL,boL,af]
    refine aA (A:=Nat) (fun k=>[(1,.ptr H.nx 0),(4,.ptr (H.nx+1+1) 0),(87,.slice .any 6 (x.roles.map (aJ))),(88,.int .i64 (x.roles.length:Int)),(89,.int .i64 (k:Int))]) (fun k=>swH HB (H.nx+1+1) (H.nx+1+1+1) ((((((((((((enc0.add (bQ x.maxBatch 2)).add (bQ x.budget 2)).add (dZ x))).add (aT cQ 12 x.actions))).add (aT dX 8 x.tables))).add (aT fa 12 x.stages))).add (cC x.roles.length 6)).add (bP gL (x.roles.take k)))) (fun k=>k≤x.roles.length) (fun k=>x.roles.length - k) 0 (by omega) ?_ fun k1 hk1=>?_
    ·rw [yar,bP,cz]
     refine ⟨by simp only [zkk,zkp,zky,af];omega,by repeat first|exact .refl _|refine .push ?_ _,hcl1 _,?_,?_⟩
     ·simp [ltF,zky,af,znh,zmz,zna,aa,aa bO,aa bg,aa bX,aa bk,aa bC,aa bZ,aa ck,aa bN,aa cn,aa aS,aa aW,aa bh,aa aV,aa fun _=>ff,aa fun _=>of_eq_true zmz,aa fun _=>of_eq_true zna]
      try omega
     ·simp [bf,wk2,wk1,wkM,Fr.get]
    simp only [go_sem]
    refine ai (fun hc=>?_) (fun hc=>?_)
    ·have hk1':k1<x.roles.length:=by simp at hc;omega
     obtain ⟨x1,hx1⟩:∃ x1,x1=x.roles[k1]:=⟨_,rfl⟩
     have hg1:=bc (f:=aJ) (l:=x.roles) (k:=k1) (x:=x1) (by rw [List.getElem?_eq_getElem hk1',hx1])
     have e15:IntKind.i64.wrap ((k1:Int)+1)=((k1+1:Nat):Int):=by rw [wrap_i64]<;>omega
     have ho1:=(ha.r) x1 (by rw [hx1];exact List.getElem_mem hk1')
     obtain ⟨es1,hlk1⟩:=cE (g:=gL) hk1' hx1 hT13
     simp only [go_sem,hcw,hcI,swC,bL,Int.toNat_natCast,ybb,hg1,aJ,af,hnB,ybb,bH,bJ,bD,bz,bE,bF,bI,bG,bK,bA,br,bw,bv,AV.cells,ah,aK,ar,ax,aj,aQ,aD,aL,aR,aJ,az,ak,aq,vc,inL,boL,af]
     refine ⟨by omega,?_⟩
     skip
     refine mi (c:=aJ) (ho1) ((hW.next _).push _) hlk1 ?_
     rw [hF.p1]
     rw [es1]
     simp only [go_sem,e15]
     refine ⟨k1+1,by omega,by omega,by simp only [zkk,zkp,zky,af];omega,by repeat first|exact .refl _|refine .push ?_ _,hcl1 _,?_,?_⟩
     ·simp [ltF,zky,af,znh,zmz,zna,aa bO,aa bg,aa bX,aa bk,aa bC,aa bZ,aa ck,aa bN,aa cn,aa aS,aa aW,aa bh,aa aV,aa fun _=>ff,aa fun _=>of_eq_true zmz,aa fun _=>of_eq_true zna]
      try omega
     ·simp [bf,wk2,wk1,wkM,Fr.get]
    ·have hk1':k1=x.roles.length:=by simp at hc;omega
     subst hk1'
     rw [List.take_length]
     rw [← hE13]
     have hE14:((((((((((((enc0.add (bQ x.maxBatch 2)).add (bQ x.budget 2)).add (dZ x))).add (aT cQ 12 x.actions))).add (aT dX 8 x.tables))).add (aT fa 12 x.stages))).add (aT gL 6 x.roles))).add (aT kF 8 x.refs)=(((((((((((((enc0.add (bQ x.maxBatch 2)).add (bQ x.budget 2)).add (dZ x))).add (aT cQ 12 x.actions))).add (aT dX 8 x.tables))).add (aT fa 12 x.stages))).add (aT gL 6 x.roles))).add (cC x.refs.length 8)).add (bP kF x.refs):=fL
     have hT14:=hl8
     rw [hE14] at hT14
     have hN14:=fA zc hT14
     try simp only [go_sem,hcw,hcI,swC,bL,af,hnB,ybb,bH,bJ,bD,bz,bE,bF,bI,bG,bK,bA,br,bw,bv,AV.cells,ah,aK,ar,ax,aj,aQ,aD,aL,aR,aJ,az,ak,aq,vc,inL,boL,af]
     refine j6 (hW.next _) (aF hT14) ?_
     rw [hF.pp]
     try simp only [go_sem,hcw,hcI,swC,bL,af,hnB,ybb,bH,bJ,bD,bz,bE,bF,bI,bG,bK,bA,br,bw,bv,AV.cells,ah,aK,ar,ax,aj,aQ,aD,aL,aR,aJ,az,ak,aq,vc,inL,boL,af]
     refine aA (A:=Nat) (fun k=>[(1,.ptr H.nx 0),(4,.ptr (H.nx+1+1) 0),(103,.slice .any 6 (x.refs.map (aR))),(104,.int .i64 (x.refs.length:Int)),(105,.int .i64 (k:Int))]) (fun k=>swH HB (H.nx+1+1) (H.nx+1+1+1) ((((((((((((((enc0.add (bQ x.maxBatch 2)).add (bQ x.budget 2)).add (dZ x))).add (aT cQ 12 x.actions))).add (aT dX 8 x.tables))).add (aT fa 12 x.stages))).add (aT gL 6 x.roles))).add (cC x.refs.length 8)).add (bP kF (x.refs.take k)))) (fun k=>k≤x.refs.length) (fun k=>x.refs.length - k) 0 (by omega) ?_ fun k1 hk1=>?_
     ·rw [yar,bP,cz]
      refine ⟨by simp only [zkk,zkp,zky,af];omega,by repeat first|exact .refl _|refine .push ?_ _,hcl1 _,?_,?_⟩
      ·simp [ltF,zky,af,znh,zmz,zna,aa,aa bO,aa bg,aa bX,aa bk,aa bC,aa bZ,aa ck,aa bN,aa cn,aa aS,aa aW,aa bh,aa aV,aa fun _=>ff,aa fun _=>of_eq_true zmz,aa fun _=>of_eq_true zna]
       try omega
      ·simp [bf,wk2,wk1,wkM,Fr.get]
     simp only [go_sem]
     refine ai (fun hc=>?_) (fun hc=>?_)
     ·have hk1':k1<x.refs.length:=by simp at hc;omega
      obtain ⟨x1,hx1⟩:∃ x1,x1=x.refs[k1]:=⟨_,rfl⟩
      have hg1:=bc (f:=aR) (l:=x.refs) (k:=k1) (x:=x1) (by rw [List.getElem?_eq_getElem hk1',hx1])
      have e15:IntKind.i64.wrap ((k1:Int)+1)=((k1+1:Nat):Int):=by rw [wrap_i64]<;>omega
      obtain ⟨es1,hlk1⟩:=cE (g:=kF) hk1' hx1 hT14
      simp only [go_sem,hcw,hcI,swC,bL,Int.toNat_natCast,ybb,hg1,aR,af,hnB,ybb,bH,bJ,bD,bz,bE,bF,bI,bG,bK,bA,br,bw,bv,AV.cells,ah,aK,ar,ax,aj,aQ,aD,aL,aR,aJ,az,ak,aq,vc,inL,boL,af]
      refine ⟨by omega,?_⟩
      rw [show kF x1=((bQ x1.table 2).add ((bQ x1.key 1).add ((bQ x1.action 2).add ((bQ x1.param 1).add ((bQ x1.toTable 2).add (bQ x1.toKey 1)))))) from rfl] at es1 hlk1
      rw [← ap,← ap,← ap,← ap,← ap] at hlk1
      rw [← ap,← ap,← ap,← ap,← ap] at es1
      have hm14:=aF hlk1
      have hm13:=aF hm14
      have hm12:=aF hm13
      have hm11:=aF hm12
      have hm10:=aF hm11
      try simp only [go_sem,hcw,hcI,swC,bL,Int.toNat_natCast,ybb,hg1,aR,af,hnB,ybb,bH,bJ,bD,bz,bE,bF,bI,bG,bK,bA,br,bw,bv,AV.cells,ah,aK,ar,ax,aj,aQ,aD,aL,aR,aJ,az,ak,aq,vc,inL,boL,af]
      refine cB (.inr rfl) ((hW.next _).push _) hm10 ?_
      rw [hF.p1]
      try simp only [go_sem,hcw,hcI,swC,bL,Int.toNat_natCast,ybb,hg1,aR,af,hnB,ybb,bH,bJ,bD,bz,bE,bF,bI,bG,bK,bA,br,bw,bv,AV.cells,ah,aK,ar,ax,aj,aQ,aD,aL,aR,aJ,az,ak,aq,vc,inL,boL,af]
      refine cB (.inl rfl) ((hW.next _).push _) hm11 ?_
      rw [hF.p1]
      try simp only [go_sem,hcw,hcI,swC,bL,Int.toNat_natCast,ybb,hg1,aR,af,hnB,ybb,bH,bJ,bD,bz,bE,bF,bI,bG,bK,bA,br,bw,bv,AV.cells,ah,aK,ar,ax,aj,aQ,aD,aL,aR,aJ,az,ak,aq,vc,inL,boL,af]
      refine cB (.inr rfl) ((hW.next _).push _) hm12 ?_
      rw [hF.p1]
      try simp only [go_sem,hcw,hcI,swC,bL,Int.toNat_natCast,ybb,hg1,aR,af,hnB,ybb,bH,bJ,bD,bz,bE,bF,bI,bG,bK,bA,br,bw,bv,AV.cells,ah,aK,ar,ax,aj,aQ,aD,aL,aR,aJ,az,ak,aq,vc,inL,boL,af]
      refine cB (.inl rfl) ((hW.next _).push _) hm13 ?_
      rw [hF.p1]
      try simp only [go_sem,hcw,hcI,swC,bL,Int.toNat_natCast,ybb,hg1,aR,af,hnB,ybb,bH,bJ,bD,bz,bE,bF,bI,bG,bK,bA,br,bw,bv,AV.cells,ah,aK,ar,ax,aj,aQ,aD,aL,aR,aJ,az,ak,aq,vc,inL,boL,af]
      refine cB (.inr rfl) ((hW.next _).push _) hm14 ?_
      rw [hF.p1]
      try simp only [go_sem,hcw,hcI,swC,bL,Int.toNat_natCast,ybb,hg1,aR,af,hnB,ybb,bH,bJ,bD,bz,bE,bF,bI,bG,bK,bA,br,bw,bv,AV.cells,ah,aK,ar,ax,aj,aQ,aD,aL,aR,aJ,az,ak,aq,vc,inL,boL,af]
      refine cB (.inl rfl) ((hW.next _).push _) hlk1 ?_
      rw [hF.p1]
      rw [es1]
      simp only [go_sem,e15]
      refine ⟨k1+1,by omega,by omega,by simp only [zkk,zkp,zky,af];omega,by repeat first|exact .refl _|refine .push ?_ _,hcl1 _,?_,?_⟩
      ·simp [ltF,zky,af,znh,zmz,zna,aa bO,aa bg,aa bX,aa bk,aa bC,aa bZ,aa ck,aa bN,aa cn,aa aS,aa aW,aa bh,aa aV,aa fun _=>ff,aa fun _=>of_eq_true zmz,aa fun _=>of_eq_true zna]
       try omega
      ·simp [bf,wk2,wk1,wkM,Fr.get]
     ·have hk1':k1=x.refs.length:=by simp at hc;omega
      subst hk1'
      rw [List.take_length]
      rw [← hE14]
      rw [← hTot]
      rcases hR with ⟨h1,rfl⟩|⟨h1,h2,rfl⟩|⟨h1,h2,h3,rfl⟩|⟨h1,h2,h3,h4,rfl⟩|⟨h1,h2,h3,h4,rfl⟩
      ·skip
       try simp only [go_sem,hcw,hcI,swC,bL,af,hnB,ybb,h1,zle]
       try (repeat with_reducible refine And.intro (by first|exact True.intro|decide|omega|(simp [zik,zgl,zgm,zgn,zgp,zgo,zgt];first|done|omega)) ?_)
       refine ⟨?_,by first|exact hlW _|(repeat refine AHeap.Le.push ?_ _;exact hlW _),hcl,?_⟩
       ·simp [wk,wk2,wk1,aG,wkM,zlf]
       ·simp [znm,zno,znp,zmm,zmz,zlf,kZ]
      ·skip
       try simp only [go_sem,hcw,hcI,swC,bL,af,hnB,ybb,h1,h2,zle]
       try (repeat with_reducible refine And.intro (by first|exact True.intro|decide|omega|(simp [zik,zgl,zgm,zgn,zgp,zgo,zgt];first|done|omega)) ?_)
       refine ⟨?_,by first|exact hlW _|(repeat refine AHeap.Le.push ?_ _;exact hlW _),hcl,?_⟩
       ·simp [wk,wk2,wk1,aG,wkM,zlf]
       ·simp [znm,zno,znp,zmm,zmz,zlf,kZ]
      ·skip
       try simp only [go_sem,hcw,hcI,swC,bL,af,hnB,ybb,h1,h2,h3,zle]
       try (repeat with_reducible refine And.intro (by first|exact True.intro|decide|omega|(simp [zik,zgl,zgm,zgn,zgp,zgo,zgt];first|done|omega)) ?_)
       refine ⟨?_,by first|exact hlW _|(repeat refine AHeap.Le.push ?_ _;exact hlW _),hcl,?_⟩
       ·simp [wk,wk2,wk1,aG,wkM,zlf]
       ·simp [znm,zno,znp,zmm,zmz,zlf,kZ]
      ·skip
       have d4:decide (((gZ x).b.length:Int) > 8000)=true:=decide_eq_true (by omega)
       try simp only [go_sem,hcw,hcI,swC,bL,af,hnB,ybb,h1,h2,h3,d4,zle]
       try (repeat with_reducible refine And.intro (by first|exact True.intro|decide|omega|(simp [zik,zgl,zgm,zgn,zgp,zgo,zgt];first|done|omega)) ?_)
       refine ⟨?_,by first|exact hlW _|(repeat refine AHeap.Le.push ?_ _;exact hlW _),hcl,?_⟩
       ·simp [wk,wk2,wk1,aG,wkM,zlf]
       ·simp [znm,zno,znp,zmm,zmz,zlf,kZ]
      ·skip
       have d4:decide (((gZ x).b.length:Int) > 8000)=false:=decide_eq_false (by omega)
       try simp only [go_sem,hcw,hcI,swC,bL,af,hnB,ybb,h1,h2,h3,d4,zle]
       try (repeat with_reducible refine And.intro (by first|exact True.intro|decide|omega|(simp [zik,zgl,zgm,zgn,zgp,zgo,zgt];first|done|omega)) ?_)
       refine ⟨?_,by first|exact hlW _|(repeat refine AHeap.Le.push ?_ _;exact hlW _),hcl,?_⟩
       ·simp [wk,wk2,wk1,aG,wkM,zlf]
       ·simp [znm,zno,znp,zmm,zmz,zlf,kZ]
end Go.AL
