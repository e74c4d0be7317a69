/- Lemmas of the proof; no condition. -/
import Derived.Test.YthnlhjalhflgfaaGreatW03j
set_option linter.all false
set_option maxRecDepth 10000
open Go Go.AL Go.Proofs
namespace Go.AL
theorem Aa:ti Tryz.prog 34=some ⟨.struct [(0,25,false),(1,26,false),(2,27,false),(3,28,false),(4,29,false),(5,30,false),(6,31,false),(7,32,false),(8,3,false),(9,3,false)],10,208,.agg [.slice .nil 1 [],.slice .nil 1 [],.slice .nil 1 [],.slice .nil 1 [],.slice .nil 1 [],.slice .nil 1 [],.slice .nil 1 [],.slice .nil 1 [],.int .i64 0,.int .i64 0]⟩:=by kernel_rfl
attribute [go_sem] Aa
theorem pP {n sz:Nat}:AV.lt n (.slice .any sz []):=se fun x hx=>absurd hx (by simp)
def oo (x:Sch):List UInt8 × Int :=
 if (eD x).l=true then ([],3) else if (eD x).f=true then ([],2) else if (eD x).a=true then ([],4) else if 8000<(eD x).b.length then ([],3) else ((eD x).b,0)
def Gs:List AV→AHeap→(AV→Prop)→Prop
 |[.agg l],_,K=>∃ x:Sch,(l=aO x∧OkSch x∧(eD x).b.length≤b8)∧K (.tup [.slice .any 1 (bys (oo x).1),.int .i64 (oo x).2])
 |_,_,_=>False
theorem SOn.leq {H HB:AHeap} {id q:Nat} {s0 s:Enc} (hW:SOn HB id q s0) (hle:H.Le HB) (h1:H.nx≤id) (h2:H.nx≤q):H.Le (swH HB id q s):=by
 refine ⟨hle.nx,fun j x hj=>?_⟩
 have hj2:=glq hj
 unfold swH
 rw [AHeap.get_set_ne _ _ (by omega),AHeap.get_set_ne _ _ (by omega)]
 exact hle.get _ _ hj
theorem pX {x:Sch} {RE:List UInt8 × Int} (h:oo x=RE) :
 ((eD x).l=true∧RE=([],3))∨((eD x).l=false∧(eD x).f=true∧RE=([],2))∨((eD x).l=false∧(eD x).f=false∧(eD x).a=true∧RE=([],4)) ∨
 ((eD x).l=false∧(eD x).f=false∧(eD x).a=false∧8000<(eD x).b.length∧RE=([],3))∨((eD x).l=false∧(eD x).f=false∧(eD x).a=false∧(eD x).b.length≤8000∧RE=((eD x).b,0)):=by
 subst h
 unfold oo
 cases (eD x).l<;>cases (eD x).f<;>cases (eD x).a<;>simp
 omega
theorem H6 (x:Sch):enc0.add (eD x)=(((((((((enc0.add (dK x.maxBatch 2)).add (dK x.budget 2)).add (bD ju 32 x.fields)).add (bD ig 8 x.headers)).add (bD jw 12 x.states)).add (bD gM 12 x.actions)).add (bD i9 8 x.tables)).add (bD i7 12 x.stages)).add (bD kH 6 x.roles)).add (bD j2 8 x.refs):=by
 unfold eD mP
 simp only [aI]
def xb:=Gs
set_option maxHeartbeats 16000000 in
theorem GY:EntOk Tryz.prog 30 (Ent.pure xb):=by
 unfold xb
 refine Ype fun _ H K h=>?_
 unfold Gs at h
 split at h
 rotate_left
 ·exact h.elim
 rename_i l
 obtain ⟨x,⟨rfl,ha,hl⟩,hK⟩:=h
 refine ⟨_,hK,?_⟩
 clear hK
 refine ACalls.fW ak (tCq fe (tCq D7 (tCq zU (tCq BW (tCq zd (tCq FD (tCq zD (tCq EZ (tCq yO (tCq Cq (tCq Am (tCq BR (tCq AA (tCq DB (tCq zG (tCq FR (tCq yT tNq))))))))))))))))) Tryz.func30 [.tmp 2,.tmp 3] (nrq _) (T:=aj [(4,[[],[],[],[0,2]]),(5,[[],[],[],[0,2]]),(6,[[],[],[],[0,2]]),(7,[[],[],[],[0,2]]),(8,[[],[],[],[0,2]]),(9,[[],[],[],[0,2]]),(10,[[],[],[],[0,2]]),(11,[[],[],[],[0,2]]),(2,[[1]])]) (h:=fun hcl hlt=>?_)
 clear hlt
 simp only [go_sem,aO,mI]
 refine sg 4 0 1 (cs:=[AV.slice .nil 1 [],.bool false,.bool false,.bool false]) rfl (by simp only [go_sem]) rfl ?_
 obtain ⟨HB,hHB⟩:∃ HB,HB=(((H.push (.cells (aO x))).push (.buf 1 0)).push (.cells (swC (H.nx+1+1+1) [] false false false))).push (.buf 1 0):=⟨_,rfl⟩
 have hnB:HB.nx=H.nx+1+1+1+1:=by rw [hHB];rfl
 have hW:SOn HB (H.nx+1+1) (H.nx+1+1+1) enc0:=by
  rw [hHB]
  exact ⟨by simp [zlh,zle,zll,swC,enc0],by simp [zlh,zle,enc0]⟩
 have hcB:HB.Closed:=by
  have h1:=bb (i:=H.nx+1+1) (cs:=swC (H.nx+1+1+1) [] false false false) (bc (a:=1) (b:=0) (ae (cs:=[]) (bc (a:=1) (b:=0) (ae (cs:=aO x) hcl (by have:=vO (n:=H.nx+1) x;simp only [mI,znr] at this;exact this))) trivial)) (by simp only [swC,znu,znv,zng,and_true,zle];rw [cJ];exact ⟨fun id h=>(by cases h;omega),trivial⟩)
  simp only [go_sem] at h1
  rw [hHB];exact h1
 have hcr:aF HB H.nx=some (aO x):=by rw [hHB];simp only [go_sem]
 have hle:H.Le HB:=by rw [hHB];repeat first|exact .refl _|refine .push ?_ _
 have hcw:∀ s,aF (swH HB (H.nx+1+1) (H.nx+1+1+1) s) H.nx=some (aO x):=fun s=>by rw [y8 (by omega) (by omega),hcr]
 have hcI:∀ s,aF (swH HB (H.nx+1+1) (H.nx+1+1+1) s) (H.nx+1+1)=some (swC (H.nx+1+1+1) s.b s.l s.f s.a):=fun s=>aq (hW.next s).o
 have hlW:∀ s,H.Le (swH HB (H.nx+1+1) (H.nx+1+1+1) s):=fun s=>hW.leq hle (by omega) (by omega)
 have hcl1:=fun t=>hW.closed (t:=t) hcB
 have hF:=hW.facts
 simp only [bhq,Nat.reduceMod,Nat.reduceDiv,aC,aB,aD,aT,aE,aS,aP,aQ,aR,List.take_succ_cons,List.take_zero,List.drop_succ_cons,List.drop_zero,go_sem,zll,List.set_cons_zero]
 rw [show (((H.push (.cells [.slice .any 3 (x.fields.map aV),.slice .any 3 (x.headers.map aH),.slice .any 5 (x.states.map aL),.slice .any 5 (x.actions.map ax),.slice .any 8 (x.tables.map az),.slice .any 2 (x.stages.map cu),.slice .any 6 (x.roles.map br),.slice .any 6 (x.refs.map bZ),.int .i64 x.maxBatch,.int .i64 x.budget])).push (.buf 1 0)).push (.cells [.slice (.own (H.nx+1+1+1)) 1 [],.bool false,.bool false,.bool false])).push (.buf 1 0)=HB from hHB.symm]
 clear hHB
 obtain ⟨RE,hRE⟩:∃ RE,oo x=RE:=⟨_,rfl⟩
 have hR:=pX hRE
 rw [hRE]
 have hTot:=H6 x
 rw [tM] at hTot
 rw [hTot] at hl
 have hl10:=hl
 have hl9:=aX hl10
 have hl8:=aX hl9
 have hl7:=aX hl8
 have hl6:=aX hl7
 have hl5:=aX hl6
 have hl4:=aX hl5
 have hl3:=aX hl4
 have hl2:=aX hl3
 have hl1:=aX hl2
 try simp only [go_sem,hcw,hcI,swC,aO,ap,hnB,List.length_map,hcr,fQ,fT,fN,fU,fM,fV,fO,fR]
 refine dJ (.inr rfl) hW hl1 ?_
 simp only [go_sem,hcw,hcI,swC,aO,ap,hnB,List.length_map,fQ,fT,fN,fU,fM,fV,fO,fR]
 refine dJ (.inr rfl) (hW.next _) hl2 ?_
 rw [hF.pp]
 simp only [go_sem,hcw,hcI,swC,aO,ap,hnB,List.length_map,fQ,fT,fN,fU,fM,fV,fO,fR]
 refine gT (c:=aV) (ha.f) (hW.next _) hl3 ?_
 rw [hF.pp]
 simp only [go_sem,hcw,hcI,swC,aO,ap,hnB,List.length_map,fQ,fT,fN,fU,fM,fV,fO,fR]
 refine gT (c:=aH) (ha.h) (hW.next _) hl4 ?_
 rw [hF.pp]
 simp only [go_sem,hcw,hcI,swC,aO,ap,hnB,List.length_map,fQ,fT,fN,fU,fM,fV,fO,fR]
 refine gT (c:=aL) (ha.s) (hW.next _) hl5 ?_
 rw [hF.pp]
 simp only [go_sem,hcw,hcI,swC,aO,ap,hnB,List.length_map,fQ,fT,fN,fU,fM,fV,fO,fR]
 refine gT (c:=ax) (ha.a) (hW.next _) hl6 ?_
 rw [hF.pp]
 simp only [go_sem,hcw,hcI,swC,aO,ap,hnB,List.length_map,fQ,fT,fN,fU,fM,fV,fO,fR]
 refine gT (c:=az) (ha.t) (hW.next _) hl7 ?_
 rw [hF.pp]
 simp only [go_sem,hcw,hcI,swC,aO,ap,hnB,List.length_map,fQ,fT,fN,fU,fM,fV,fO,fR]
 refine gT (c:=cu) (fun _ _=>trivial) (hW.next _) hl8 ?_
 rw [hF.pp]
 simp only [go_sem,hcw,hcI,swC,aO,ap,hnB,List.length_map,fQ,fT,fN,fU,fM,fV,fO,fR]
 refine gT (c:=br) (ha.r) (hW.next _) hl9 ?_
 rw [hF.pp]
 simp only [go_sem,hcw,hcI,swC,aO,ap,hnB,List.length_map,fQ,fT,fN,fU,fM,fV,fO,fR]
 refine gT (c:=bZ) (fun _ _=>trivial) (hW.next _) hl10 ?_
 rw [hF.pp]
 rw [← hTot]
 rcases hR with ⟨h1,rfl⟩|⟨h1,h2,rfl⟩|⟨h1,h2,h3,rfl⟩|⟨h1,h2,h3,h4,rfl⟩|⟨h1,h2,h3,h4,rfl⟩
 ·skip
  try simp only [go_sem,hcw,hcI,swC,aO,ap,hnB,List.length_map,h1,zlk]
  try (repeat with_reducible refine Yq ?_)
  refine ⟨?_,by first|exact hlW _|(repeat refine lPq ?_ _;exact hlW _),hcl,?_⟩
  ·simp [wk,wk2,wk1,af,wkM,zll]
  ·simp [zns,znu,znv,zms,znf,zll,pP]
 ·skip
  try simp only [go_sem,hcw,hcI,swC,aO,ap,hnB,List.length_map,h1,h2,zlk]
  try (repeat with_reducible refine Yq ?_)
  refine ⟨?_,by first|exact hlW _|(repeat refine lPq ?_ _;exact hlW _),hcl,?_⟩
  ·simp [wk,wk2,wk1,af,wkM,zll]
  ·simp [zns,znu,znv,zms,znf,zll,pP]
 ·skip
  try simp only [go_sem,hcw,hcI,swC,aO,ap,hnB,List.length_map,h1,h2,h3,zlk]
  try (repeat with_reducible refine Yq ?_)
  refine ⟨?_,by first|exact hlW _|(repeat refine lPq ?_ _;exact hlW _),hcl,?_⟩
  ·simp [wk,wk2,wk1,af,wkM,zll]
  ·simp [zns,znu,znv,zms,znf,zll,pP]
 ·skip
  have d4:decide (((eD x).b.length:Int) > 8000)=true:=dtq (by omega)
  try simp only [go_sem,hcw,hcI,swC,aO,ap,hnB,List.length_map,h1,h2,h3,d4,zlk]
  try (repeat with_reducible refine Yq ?_)
  refine ⟨?_,by first|exact hlW _|(repeat refine lPq ?_ _;exact hlW _),hcl,?_⟩
  ·simp [wk,wk2,wk1,af,wkM,zll]
  ·simp [zns,znu,znv,zms,znf,zll,pP]
 ·skip
  have d4:decide (((eD x).b.length:Int) > 8000)=false:=dfq (by omega)
  try simp only [go_sem,hcw,hcI,swC,aO,ap,hnB,List.length_map,h1,h2,h3,d4,zlk]
  try (repeat with_reducible refine Yq ?_)
  refine ⟨?_,by first|exact hlW _|(repeat refine lPq ?_ _;exact hlW _),hcl,?_⟩
  ·simp [wk,wk2,wk1,af,wkM,zll]
  ·simp [zns,znu,znv,zms,znf,zll,pP]
theorem Lj:ti Tryz.prog 22=some ⟨.slice 5,1,24,.slice .nil 1 []⟩:=by kernel_rfl
attribute [go_sem] Lj
theorem Dq:ti Tryz.prog 28=some ⟨.slice 86,1,24,.slice .nil 1 []⟩:=by kernel_rfl
theorem CJ:ti Tryz.prog 29=some ⟨.slice 57,1,24,.slice .nil 1 []⟩:=by kernel_rfl
theorem AK:ti Tryz.prog 31=some ⟨.slice 48,1,24,.slice .nil 1 []⟩:=by kernel_rfl
theorem AR:ti Tryz.prog 25=some ⟨.slice 45,1,24,.slice .nil 1 []⟩:=by kernel_rfl
theorem AD:ti Tryz.prog 83=some ⟨.slice 114,1,24,.slice .nil 1 []⟩:=by kernel_rfl
theorem FF:ti Tryz.prog 32=some ⟨.slice 50,1,24,.slice .nil 1 []⟩:=by kernel_rfl
theorem Dw:ti Tryz.prog 84=some ⟨.slice 112,1,24,.slice .nil 1 []⟩:=by kernel_rfl
theorem FV:ti Tryz.prog 30=some ⟨.slice 75,1,24,.slice .nil 1 []⟩:=by kernel_rfl
theorem CX:ti Tryz.prog 23=some ⟨.slice 3,1,24,.slice .nil 1 []⟩:=by kernel_rfl
theorem Iz:ti Tryz.prog 86=some ⟨.struct [(0,3,false),(1,9,false),(2,83,false),(3,84,false),(4,9,false)],5,88,.agg [.int .i64 0,.str [],.slice .nil 1 [],.slice .nil 1 [],.str []]⟩:=by kernel_rfl
theorem JG:ti Tryz.prog 57=some ⟨.struct [(0,3,false),(1,9,false),(2,54,false),(3,23,false),(4,3,false),(5,55,false),(6,3,false),(7,9,false)],8,128,.agg [.int .i64 0,.str [],.slice .nil 1 [],.slice .nil 1 [],.int .i64 0,.slice .nil 1 [],.int .i64 0,.str []]⟩:=by kernel_rfl
theorem GU:ti Tryz.prog 48=some ⟨.struct [(0,3,false),(1,9,false),(2,46,false),(3,23,false),(4,3,false),(5,4,false)],6,88,.agg [.int .i64 0,.str [],.slice .nil 1 [],.slice .nil 1 [],.int .i64 0,.bool false]⟩:=by kernel_rfl
theorem Ig:ti Tryz.prog 45=some ⟨.struct [(0,3,false),(1,9,false),(2,3,false)],3,32,.agg [.int .i64 0,.str [],.int .i64 0]⟩:=by kernel_rfl
theorem Gd:ti Tryz.prog 114=some ⟨.struct [(0,9,false),(1,3,false)],2,24,.agg [.str [],.int .i64 0]⟩:=by kernel_rfl
theorem Gl:ti Tryz.prog 112=some ⟨.struct [(0,3,false),(1,3,false),(2,110,false)],6,48,.agg [.int .i64 0,.int .i64 0,.int .i64 0,.int .i64 0,.int .u64 0,.int .u64 0]⟩:=by kernel_rfl
theorem HO:ti Tryz.prog 110=some ⟨.struct [(0,3,false),(1,3,false),(2,106,false)],4,32,.agg [.int .i64 0,.int .i64 0,.int .u64 0,.int .u64 0]⟩:=by kernel_rfl
theorem I4:ti Tryz.prog 50=some ⟨.struct [(0,3,false),(1,3,false),(2,3,false),(3,3,false),(4,3,false),(5,3,false)],6,48,.agg [.int .i64 0,.int .i64 0,.int .i64 0,.int .i64 0,.int .i64 0,.int .i64 0]⟩:=by kernel_rfl
theorem Jf:ti Tryz.prog 75=some ⟨.struct [(0,3,false),(1,3,false)],2,16,.agg [.int .i64 0,.int .i64 0]⟩:=by kernel_rfl
attribute [go_sem] Dq CJ AK AR AD FF Dw FV CX Iz JG GU Ig Gd Gl HO I4 Jf
theorem uU {v:Nat} (h:v<2^128):(kM v).length≤17:=by
 unfold kM
 rw [List.length_cons,mj]
 have:=sW h
 omega
theorem cn (n w:Int):(dK n w).b.length≤4:=cr n w
theorem kh (s:List UInt8) (m:Int):(kl s m).b.length≤65537:=vI s
theorem s5 {v:Nat} (h:my v):(i8 v).b.length≤17:=uU h
theorem tB (x:Bool):(iH x).b.length≤1:=by simp [iH]
theorem E8 {α:Type} {g:α→Enc} {B:Nat}:∀ {l:List α},(∀ a∈l,(g a).b.length≤B)→(bT g l).b.length≤l.length*B
 |[],_=>Nat.zero_le _
 |x::l,h=>by
  rw [bT,bP,List.length_cons,Nat.succ_mul]
  have:=h x List.mem_cons_self
  have:=E8 (l:=l) fun a ha=>h a (List.mem_cons_of_mem _ ha)
  omega
theorem dT {α:Type} {g:α→Enc} {m:Int} {n B:Nat} {l:List α} (hl:l.length≤n) (h:∀ a∈l,(g a).b.length≤B):(bD g m l).b.length≤4+n*B:=by
 unfold bD dq
 rw [bP]
 have h1:=E8 h
 have h2:=cr (l.length:Int) 2
 have h3:l.length*B≤n*B:=Nat.mul_le_mul_right _ hl
 dsimp only
 omega
structure SmP (N R:Nat) (x:Sch):Prop where
 f:x.fields.length≤N∧∀ a∈x.fields,lR a.name
 h:x.headers.length≤N∧∀ a∈x.headers,lR a.name∧a.fields.length≤R
 s:x.states.length≤N∧∀ a∈x.states,a.cases.length≤R∧∀ c∈a.cases,ql c
 a:x.actions.length≤N∧∀ a∈x.actions,kI a∧a.params.length≤R∧a.body.length≤R
 t:x.tables.length≤N∧∀ a∈x.tables,nd a∧a.keys.length≤R∧a.actions.length≤R∧a.dargs.length≤R
 g:x.stages.length≤R
 r:x.roles.length≤N∧∀ a∈x.roles,lR a.name∧a.grants.length≤R∧a.actions.length≤R∧∀ q∈a.grants,q.keys.length≤R
 x:x.refs.length≤R
theorem SmP.ok {N R:Nat} {x:Sch} (h:SmP N R x):OkSch x :=
 ⟨h.f.2,fun a ha=>(h.h.2 a ha).1,fun a ha=>(h.s.2 a ha).2,fun a ha=>(h.a.2 a ha).1,fun a ha=>(h.t.2 a ha).1,fun a ha=>(h.r.2 a ha).1⟩
theorem SmP.mono {N R N' R':Nat} {x:Sch} (h:SmP N R x) (hN:N≤N') (hR:R≤R'):SmP N' R' x where
 f:=⟨Nat.le_trans h.f.1 hN,h.f.2⟩
 h:=⟨Nat.le_trans h.h.1 hN,fun a ha=>⟨(h.h.2 a ha).1,Nat.le_trans (h.h.2 a ha).2 hR⟩⟩
 s:=⟨Nat.le_trans h.s.1 hN,fun a ha=>⟨Nat.le_trans (h.s.2 a ha).1 hR,(h.s.2 a ha).2⟩⟩
 a:=⟨Nat.le_trans h.a.1 hN,fun a ha=>⟨(h.a.2 a ha).1,Nat.le_trans (h.a.2 a ha).2.1 hR,Nat.le_trans (h.a.2 a ha).2.2 hR⟩⟩
 t:=⟨Nat.le_trans h.t.1 hN,fun a ha=>⟨(h.t.2 a ha).1,Nat.le_trans (h.t.2 a ha).2.1 hR,Nat.le_trans (h.t.2 a ha).2.2.1 hR,Nat.le_trans (h.t.2 a ha).2.2.2 hR⟩⟩
 g:=Nat.le_trans h.g hR
 r:=⟨Nat.le_trans h.r.1 hN,fun a ha=>⟨(h.r.2 a ha).1,Nat.le_trans (h.r.2 a ha).2.1 hR,Nat.le_trans (h.r.2 a ha).2.2.1 hR,fun q hq=>Nat.le_trans ((h.r.2 a ha).2.2.2 q hq) hR⟩⟩
 x:=Nat.le_trans h.x hR
theorem SmP.len {x:Sch} (h:SmP 50 1100000 x):(eD x).b.length≤b8:=by
 have e1:(bD ju 32 x.fields).b.length≤4+50*65545:=dT h.f.1 fun a _=>by
  unfold ju;rw [bP,bP]
  have:=cn a.id 2;have:=kh a.name 24;have:=cn a.bits 1;omega
 have e2:(bD ig 8 x.headers).b.length≤4+50*(65545+1100000*4):=dT h.h.1 fun a ha=>by
  unfold ig;rw [bP,bP]
  have:=cn a.id 2;have:=kh a.name 24
  have:=dT (g:=j9) (m:=32) (h.h.2 a ha).2 (B:=4) fun n _=>cn n 2
  omega
 have e3:(bD jw 12 x.states).b.length≤4+50*(20+1100000*38):=dT h.s.1 fun a ha=>by
  unfold jw;rw [bP,bP,bP,bP]
  have:=cn a.id 2;have:=cn a.header 2;have:=cn a.select 2;have:=cn a.dflt 2
  have:=dT (g:=m9) (m:=6) (h.s.2 a ha).1 (B:=38) fun c hc=>by
   unfold m9;rw [bP,bP]
   have:=s5 ((h.s.2 a ha).2 c hc).1;have:=s5 ((h.s.2 a ha).2 c hc).2;have:=cn c.next 2;omega
  omega
 have e4:(bD gM 12 x.actions).b.length≤4+50*(131086+1100000*65541+1100000*33):=dT h.a.1 fun a ha=>by
  unfold gM;rw [bP,bP,bP,bP]
  obtain ⟨h1,h2,h3⟩:=h.a.2 a ha
  have:=cn a.id 2;have:=kh a.name 24;have:=kh a.restr 400
  have:=dT (g:=j6) (m:=4) h2 (B:=65541) fun c hc=>by
   unfold j6;rw [bP]
   have:=kh c.name 24;have:=cn c.bits 1;omega
  have:=dT (g:=nt) (m:=12) h3 (B:=33) fun c hc=>by
   unfold nt;rw [bP,bP,bP,bP]
   have:=cn c.op 1;have:=cn c.dst 2;have:=cn c.kind 1;have:=cn c.n 2;have:=s5 (h1.2.2.1 c hc);omega
  omega
 have e5:(bD i9 8 x.tables).b.length≤4+50*(131098+1100000*65545+1100000*4+1100000*17):=dT h.t.1 fun a ha=>by
  unfold i9;simp only [bP]
  obtain ⟨h1,h2,h3,h4⟩:=h.t.2 a ha
  have:=cn a.id 2;have:=kh a.name 24;have:=kh a.restr 400;have:=cn a.dflt 2;have:=cn a.size 2
  have:=dT (g:=ss) (m:=4) h2 (B:=65545) fun c hc=>by
   unfold ss;rw [bP,bP]
   have:=kh c.name 24;have:=cn c.field 2;have:=cn c.kind 1;omega
  have:=dT (g:=j9) (m:=12) h3 (B:=4) fun n _=>cn n 2
  have:=dT (g:=i8) (m:=4) h4 (B:=17) fun v hv=>s5 (h1.2.2.1 v hv)
  omega
 have e6:(bD i7 12 x.stages).b.length≤4+1100000*8:=dT h.g fun a _=>by
  unfold i7;rw [bP]
  have:=cn a.table 2;have:=cn a.header 2;omega
 have e7:(bD kH 6 x.roles).b.length≤4+50*(65560+1100000*(10+1100000*1)+1100000*4):=dT h.r.1 fun a ha=>by
  unfold kH;simp only [bP]
  obtain ⟨h1,h2,h3,h4⟩:=h.r.2 a ha
  have:=cn a.id 2;have:=kh a.name 24;have:=cn a.quota 2;have:=tB a.audit
  have:=dT (g:=jV) (m:=8) h2 (B:=10+1100000*1) fun c hc=>by
   unfold jV;simp only [bP]
   have:=cn c.table 2;have:=tB c.read;have:=tB c.write
   have:=dT (g:=iH) (m:=4) (h4 c hc) (B:=1) fun y _=>tB y
   omega
  have:=dT (g:=j9) (m:=12) h3 (B:=4) fun n _=>cn n 2
  omega
 have e8:(bD j2 8 x.refs).b.length≤4+1100000*24:=dT h.x fun a _=>by
  unfold j2;simp only [bP]
  have:=cn a.table 2;have:=cn a.key 1;have:=cn a.action 2;have:=cn a.param 1;have:=cn a.toTable 2;have:=cn a.toKey 1;omega
 unfold eD mP
 simp only [bP]
 rw [bj]
 have:=cn x.maxBatch 2;have:=cn x.budget 2
 omega
theorem ww:ti Tryz.prog 39=some ⟨.slice 34,1,24,.slice .nil 1 []⟩:=by kernel_rfl
attribute [go_sem] ww
theorem cB {s:List UInt8} (h:s.length≤1000):lR s:=by unfold lR;rw [bj];omega
theorem fH {v:Nat} (h:v≤1000):my v:=by unfold my;omega
theorem qX (b:List UInt8) (v:Nat):(bR b v).1.length≤40∧∀ a∈(bR b v).1,a.cases.length≤1000∧∀ c∈a.cases,ql c:=by
 have h2:=gS (b:=b) (v:=v+2) (n:=2) (by decide)
 have h6:=gS (b:=b) (v:=v+6) (n:=3) (by decide)
 have h4:=gS (b:=b) (v:=v+4) (n:=3) (by decide)
 unfold bR
 (repeat' split)<;>refine ⟨by simp,fun a ha=>?_⟩<;>simp only [List.mem_cons,List.not_mem_nil,or_false] at ha<;>rcases ha with rfl|rfl|rfl<;>refine ⟨by simp,fun c hc=>?_⟩ <;>
   simp only [List.mem_cons,List.not_mem_nil,or_false] at hc <;>
   first
    |exact hc.elim
    |(subst hc;exact ⟨fH (by dsimp only;omega),fH (by dsimp only;omega)⟩)
    |(rcases hc with rfl|rfl<;>exact ⟨fH (by dsimp only;omega),fH (by dsimp only;omega)⟩)
    |(rcases hc with rfl|rfl|rfl<;>exact ⟨fH (by dsimp only;omega),fH (by dsimp only;omega)⟩)
theorem pR (b:List UInt8) (v:Nat):(dc b v).length=6∧∀ a∈dc b v,kI a∧a.params.length≤1000∧a.body.length≤1000:=by
 have h1:=gS (b:=b) (v:=v+1) (n:=256) (by decide)
 refine ⟨rfl,fun a ha=>?_⟩
 simp only [dc,List.mem_cons,List.not_mem_nil,or_false] at ha
 rcases ha with rfl|rfl|rfl|rfl|rfl|rfl<;>refine ⟨⟨cB (by simp),fun p hp=>?_,fun p hp=>?_,cB (by dsimp only;(try split)<;>simp)⟩,by simp,by simp⟩<;>simp only [List.mem_cons,List.not_mem_nil,or_false] at hp <;>
  first
   |exact hp.elim
   |(subst hp;first|exact cB (by simp)|exact fH (by dsimp only;omega))
   |(rcases hp with rfl|rfl<;>first|exact cB (by simp)|exact fH (by dsimp only;omega))
   |(rcases hp with rfl|rfl|rfl<;>first|exact cB (by simp)|exact fH (by dsimp only;omega))
theorem j8 {L:List (List UInt8)} (h:∀ s∈L,s.length≤1000) (i:Nat):lR (L.getD i []):=by
 rw [gEq]
 cases hi:L[i]? with
 |none=>exact cB (by simp)
 |some s=>exact cB (h s (List.mem_of_getElem? hi))
theorem qR (b:List UInt8) (v:Nat):(cD b v).length=4∧∀ a∈cD b v,nd a∧a.keys.length≤1000∧a.actions.length≤1000∧a.dargs.length≤1000:=by
 refine ⟨rfl,fun a ha=>?_⟩
 simp only [cD,List.mem_cons,List.not_mem_nil,or_false] at ha
 rcases ha with rfl|rfl|rfl|rfl
 ·refine ⟨⟨cB (by simp [ij]),fun k hk=>?_,by simp [ij],j8 (by decide) _⟩,by simp [ij],by simp [ij],by simp [ij]⟩
  simp only [ij,List.mem_cons,List.not_mem_nil,or_false] at hk
  subst hk;exact cB (by simp)
 ·refine ⟨⟨cB (by simp [ia]),fun k hk=>?_,by simp [ia],j8 (by decide) _⟩,by simp only [ia];split<;>simp,by simp [ia],by simp [ia]⟩
  simp only [ia] at hk
  split at hk<;>simp only [List.cons_append,List.nil_append,List.append_nil,List.mem_cons,List.not_mem_nil,or_false] at hk
  ·rcases hk with rfl|rfl<;>exact cB (by simp)
  ·subst hk;exact cB (by simp)
 ·refine ⟨⟨cB (by simp [dt]),fun k hk=>?_,by simp [dt],j8 (by decide) _⟩,by simp only [dt];split<;>simp,by simp [dt],by simp [dt]⟩
  simp only [dt] at hk
  split at hk<;>simp only [List.cons_append,List.nil_append,List.append_nil,List.mem_cons,List.not_mem_nil,or_false] at hk
  ·rcases hk with rfl|rfl|rfl<;>exact cB (by simp)
  ·rcases hk with rfl|rfl<;>exact cB (by simp)
 ·refine ⟨⟨cB (by simp [du]),fun k hk=>?_,fun x hx=>?_,j8 (by decide) _⟩,by simp only [du];split<;>simp,by simp [du],by simp [du]⟩
  ·simp only [du] at hk
   split at hk<;>simp only [List.cons_append,List.nil_append,List.append_nil,List.mem_cons,List.not_mem_nil,or_false] at hk
   ·rcases hk with rfl|rfl|rfl<;>exact cB (by simp)
   ·subst hk;exact cB (by simp)
  ·simp only [du,List.mem_singleton] at hx
   subst hx;exact fH (by omega)
def GrOk (n:Nat) (l:List SGrant):Prop:=l.length≤n∧∀ q∈l,q.keys.length≤1000
theorem GrOk.nil {n:Nat}:GrOk n []:=⟨Nat.zero_le _,fun q hq=>by cases hq⟩
theorem GrOk.cons {n:Nat} {l:List SGrant} {q:SGrant} (h:GrOk n l) (hq:q.keys.length≤1000):GrOk (n+1) (q::l) :=
 ⟨Nat.succ_le_succ h.1,fun x hx=>(List.mem_cons.1 hx).elim (fun e=>e ▸ hq) (h.2 x)⟩
theorem GrOk.up {n:Nat} {l:List SGrant} (h:GrOk n l):GrOk (n+1) l:=⟨Nat.le_succ_of_le h.1,h.2⟩
theorem fJ (b:List UInt8):∀ (ts:List STable) (v:Nat),(∀ t∈ts,t.keys.length≤1000)→GrOk ts.length (cL b ts v).1.1∧GrOk ts.length (cL b ts v).1.2.1∧GrOk ts.length (cL b ts v).1.2.2
 |[],v,_=>⟨.nil,.nil,.nil⟩
 |t::ts,v,h=>by
  have ht:=h t List.mem_cons_self
  have hp:∀ v,(iD b v t.keys.length).length≤1000:=fun v=>by simp [iD];exact ht
  have hr:(List.replicate t.keys.length true).length≤1000:=by simp;exact ht
  simp only [cL]
  rw [List.length_cons]
  split<;>split
  ·obtain ⟨i1,i2,i3⟩:=fJ b ts (v+t.keys.length+3+3) fun x hx=>h x (List.mem_cons_of_mem _ hx)
   exact ⟨i1.cons hr,i2.cons (hp _),i3.cons hr⟩
  ·obtain ⟨i1,i2,i3⟩:=fJ b ts (v+t.keys.length+3+1) fun x hx=>h x (List.mem_cons_of_mem _ hx)
   exact ⟨i1.cons hr,i2.cons (hp _),i3.up⟩
  ·obtain ⟨i1,i2,i3⟩:=fJ b ts (v+t.keys.length+1+3) fun x hx=>h x (List.mem_cons_of_mem _ hx)
   exact ⟨i1.cons hr,i2.up,i3.cons hr⟩
  ·obtain ⟨i1,i2,i3⟩:=fJ b ts (v+t.keys.length+1+1) fun x hx=>h x (List.mem_cons_of_mem _ hx)
   exact ⟨i1.cons hr,i2.up,i3.up⟩
theorem ln (b:List UInt8) (v:Nat):SmP 40 1000 (fk b v).1:=by
 unfold fk
 dsimp only
 obtain ⟨t1,t2⟩:=qR b (cp (bR b (cp v 2)).2 4)
 obtain ⟨a1,a2⟩:=pR b (bR b (cp v 2)).2
 refine ⟨⟨(by decide:gFields.length≤40),fun a ha=>?_⟩,⟨(by decide:gHeaders.length≤40),fun a ha=>?_⟩,qX b _,⟨by dsimp only;omega,a2⟩,⟨by dsimp only;omega,t2⟩,?_,⟨by simp [gV],fun a ha=>?_⟩,?_⟩
 ·simp only [gFields,List.mem_cons,List.not_mem_nil,or_false] at ha
  rcases ha with rfl|rfl|rfl|rfl|rfl|rfl|rfl|rfl|rfl<;>exact cB (by simp)
 ·simp only [gHeaders,List.mem_cons,List.not_mem_nil,or_false] at ha
  rcases ha with rfl|rfl|rfl<;>exact ⟨cB (by simp),by simp⟩
 ·split<;>simp
 ·obtain ⟨g1,g2,g3⟩:=fJ b (cD b (cp (bR b (cp v 2)).2 4)) (cp (bR b (cp v 2)).2 16+4) fun t ht=>(t2 t ht).2.1
  rw [t1] at g1 g2 g3
  simp only [gV,List.mem_cons,List.not_mem_nil,or_false] at ha
  rcases ha with rfl|rfl|rfl
  ·exact ⟨cB (by simp),by have:=g1.1;dsimp only;omega,by simp,g1.2⟩
  ·exact ⟨cB (by simp),by have:=g2.1;dsimp only;omega,by simp,g2.2⟩
  ·exact ⟨cB (by simp),by have:=g3.1;dsimp only;omega,by simp,g3.2⟩
 ·(repeat' split)<;>simp
theorem nL {b:List UInt8}:zod b 0=cK b (cp 0 0):=by
 unfold zod cK cp
 simp
end Go.AL
