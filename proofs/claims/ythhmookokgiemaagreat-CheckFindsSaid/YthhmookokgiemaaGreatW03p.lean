/- Lemmas of the proof; no condition. -/
import Derived.Test.YthhmookokgiemaaGreatW03j
set_option linter.all false
set_option maxRecDepth 10000
open Go Go.AL Go.Proofs
namespace Go.AL
theorem B3:ti Tryz.prog 34=some ⟨.struct [(0,25,false),(1,26,false),(2,27,false),(3,28,false),(4,29,false),(5,30,false),(6,31,false),(7,32,false),(8,3,false),(9,3,false)],10,208,.agg [.slice .nil 1 [],.slice .nil 1 [],.slice .nil 1 [],.slice .nil 1 [],.slice .nil 1 [],.slice .nil 1 [],.slice .nil 1 [],.slice .nil 1 [],.int .i64 0,.int .i64 0]⟩:=by kernel_rfl
attribute [go_sem] B3
theorem rt {n sz:Nat}:AV.lt n (.slice .any sz []):=sw fun x hx=>absurd hx (by simp)
def rm (x:Sch):List UInt8 × Int :=
 if (ge x).l=true then ([],3) else if (ge x).f=true then ([],2) else if (ge x).a=true then ([],4) else if 8000<(ge x).b.length then ([],3) else ((ge x).b,0)
def Ik:List AV→AHeap→(AV→Prop)→Prop
 |[.agg l],_,K=>∃ x:Sch,(l=aG x∧OkSch x∧(ge x).b.length≤cz)∧K (.tup [.slice .any 1 (bys (rm x).1),.int .i64 (rm x).2])
 |_,_,_=>False
theorem SOn.leq {H HB:AHeap} {id q:Nat} {s0 s:Enc} (hW:SOn HB id q s0) (hle:H.Le HB) (h1:H.nx≤id) (h2:H.nx≤q):H.Le (swH HB id q s):=by
 refine ⟨hle.nx,fun j x hj=>?_⟩
 have hj2:=glq hj
 unfold swH
 rw [AHeap.get_set_ne _ _ (by omega),AHeap.get_set_ne _ _ (by omega)]
 exact hle.get _ _ hj
theorem qD {x:Sch} {RE:List UInt8 × Int} (h:rm x=RE) :
 ((ge x).l=true∧RE=([],3))∨((ge x).l=false∧(ge x).f=true∧RE=([],2))∨((ge x).l=false∧(ge x).f=false∧(ge x).a=true∧RE=([],4)) ∨
 ((ge x).l=false∧(ge x).f=false∧(ge x).a=false∧8000<(ge x).b.length∧RE=([],3))∨((ge x).l=false∧(ge x).f=false∧(ge x).a=false∧(ge x).b.length≤8000∧RE=((ge x).b,0)):=by
 subst h
 unfold rm
 cases (ge x).l<;>cases (ge x).f<;>cases (ge x).a<;>simp
 omega
theorem H8 (x:Sch):enc0.add (ge x)=(((((((((enc0.add (eI x.maxBatch 2)).add (eI x.budget 2)).add (b5 gT 32 x.fields)).add (b5 fH 8 x.headers)).add (b5 gO 12 x.states)).add (b5 fI 12 x.actions)).add (b5 gN 8 x.tables)).add (b5 gW 12 x.stages)).add (b5 jy 6 x.roles)).add (b5 mV 8 x.refs):=by
 unfold ge pw
 simp only [aP]
def yR:=Ik
set_option maxHeartbeats 16000000 in
theorem H4:EntOk Tryz.prog 42 (Ent.pure yR):=by
 unfold yR
 refine Ype fun _ H K h=>?_
 unfold Ik at h
 split at h
 rotate_left
 ·exact h.elim
 rename_i l
 obtain ⟨x,⟨rfl,ha,hl⟩,hK⟩:=h
 refine ⟨_,hK,?_⟩
 clear hK
 refine ACalls.fW ak (tCq fJ (tCq GL (tCq BB (tCq Fk (tCq CH (tCq DH (tCq Bu (tCq G2 (tCq CJ (tCq Ed (tCq B7 (tCq Fg (tCq BM (tCq Gm (tCq BK (tCq EE (tCq BA tNq))))))))))))))))) Tryz.func42 [.tmp 2,.tmp 3] (nrq _) (T:=ag [(4,[[],[],[],[0,2]]),(5,[[],[],[],[0,2]]),(6,[[],[],[],[0,2]]),(7,[[],[],[],[0,2]]),(8,[[],[],[],[0,2]]),(9,[[],[],[],[0,2]]),(10,[[],[],[],[0,2]]),(11,[[],[],[],[0,2]]),(2,[[1]])]) (h:=fun hcl hlt=>?_)
 clear hlt
 simp only [go_sem,aG,jb]
 refine Bp 4 0 1 (cs:=[AV.slice .nil 1 [],.bool false,.bool false,.bool false]) rfl (by simp only [go_sem]) rfl ?_
 obtain ⟨HB,hHB⟩:∃ HB,HB=(((H.push (.cells (aG x))).push (.buf 1 0)).push (.cells (swC (H.nx+1+1+1) [] false false false))).push (.buf 1 0):=⟨_,rfl⟩
 have hnB:HB.nx=H.nx+1+1+1+1:=by rw [hHB];rfl
 have hW:SOn HB (H.nx+1+1) (H.nx+1+1+1) enc0:=by
  rw [hHB]
  exact ⟨by simp [zlh,zle,zll,swC,enc0],by simp [zlh,zle,enc0]⟩
 have hcB:HB.Closed:=by
  have h1:=bj (i:=H.nx+1+1) (cs:=swC (H.nx+1+1+1) [] false false false) (aU (a:=1) (b:=0) (ae (cs:=[]) (aU (a:=1) (b:=0) (ae (cs:=aG x) hcl (by have:=lP (n:=H.nx+1) x;simp only [jb,znr] at this;exact this))) trivial)) (by simp only [swC,znu,znv,zng,and_true,zle];rw [bA];exact ⟨fun id h=>(by cases h;omega),trivial⟩)
  simp only [go_sem] at h1
  rw [hHB];exact h1
 have hcr:aJ HB H.nx=some (aG x):=by rw [hHB];simp only [go_sem]
 have hle:H.Le HB:=by rw [hHB];repeat first|exact .refl _|refine .push ?_ _
 have hcw:∀ s,aJ (swH HB (H.nx+1+1) (H.nx+1+1+1) s) H.nx=some (aG x):=fun s=>by rw [B8 (by omega) (by omega),hcr]
 have hcI:∀ s,aJ (swH HB (H.nx+1+1) (H.nx+1+1+1) s) (H.nx+1+1)=some (swC (H.nx+1+1+1) s.b s.l s.f s.a):=fun s=>au (hW.next s).o
 have hlW:∀ s,H.Le (swH HB (H.nx+1+1) (H.nx+1+1+1) s):=fun s=>hW.leq hle (by omega) (by omega)
 have hcl1:=fun t=>hW.closed (t:=t) hcB
 have hF:=hW.facts
 simp only [bhq,Nat.reduceMod,Nat.reduceDiv,aB,aC,aD,ba,aE,aZ,aV,aX,aW,List.take_succ_cons,List.take_zero,List.drop_succ_cons,List.drop_zero,go_sem,zll,List.set_cons_zero]
 rw [show (((H.push (.cells [.slice .any 3 (x.fields.map aI),.slice .any 3 (x.headers.map az),.slice .any 5 (x.states.map aH),.slice .any 5 (x.actions.map ap),.slice .any 8 (x.tables.map aq),.slice .any 2 (x.stages.map bB),.slice .any 6 (x.roles.map aN),.slice .any 6 (x.refs.map bL),.int .i64 x.maxBatch,.int .i64 x.budget])).push (.buf 1 0)).push (.cells [.slice (.own (H.nx+1+1+1)) 1 [],.bool false,.bool false,.bool false])).push (.buf 1 0)=HB from hHB.symm]
 clear hHB
 obtain ⟨RE,hRE⟩:∃ RE,rm x=RE:=⟨_,rfl⟩
 have hR:=qD hRE
 rw [hRE]
 have hTot:=H8 x
 rw [xa] at hTot
 rw [hTot] at hl
 have hl10:=hl
 have hl9:=bc hl10
 have hl8:=bc hl9
 have hl7:=bc hl8
 have hl6:=bc hl7
 have hl5:=bc hl6
 have hl4:=bc hl5
 have hl3:=bc hl4
 have hl2:=bc hl3
 have hl1:=bc hl2
 try simp only [go_sem,hcw,hcI,swC,aG,ax,hnB,List.length_map,hcr,gI,gL,gH,gD,gG,gC,gE,gM]
 refine ep (.inr rfl) hW hl1 ?_
 simp only [go_sem,hcw,hcI,swC,aG,ax,hnB,List.length_map,gI,gL,gH,gD,gG,gC,gE,gM]
 refine ep (.inr rfl) (hW.next _) hl2 ?_
 rw [hF.pp]
 simp only [go_sem,hcw,hcI,swC,aG,ax,hnB,List.length_map,gI,gL,gH,gD,gG,gC,gE,gM]
 refine iA (c:=aI) (ha.f) (hW.next _) hl3 ?_
 rw [hF.pp]
 simp only [go_sem,hcw,hcI,swC,aG,ax,hnB,List.length_map,gI,gL,gH,gD,gG,gC,gE,gM]
 refine iA (c:=az) (ha.h) (hW.next _) hl4 ?_
 rw [hF.pp]
 simp only [go_sem,hcw,hcI,swC,aG,ax,hnB,List.length_map,gI,gL,gH,gD,gG,gC,gE,gM]
 refine iA (c:=aH) (ha.s) (hW.next _) hl5 ?_
 rw [hF.pp]
 simp only [go_sem,hcw,hcI,swC,aG,ax,hnB,List.length_map,gI,gL,gH,gD,gG,gC,gE,gM]
 refine iA (c:=ap) (ha.a) (hW.next _) hl6 ?_
 rw [hF.pp]
 simp only [go_sem,hcw,hcI,swC,aG,ax,hnB,List.length_map,gI,gL,gH,gD,gG,gC,gE,gM]
 refine iA (c:=aq) (ha.t) (hW.next _) hl7 ?_
 rw [hF.pp]
 simp only [go_sem,hcw,hcI,swC,aG,ax,hnB,List.length_map,gI,gL,gH,gD,gG,gC,gE,gM]
 refine iA (c:=bB) (fun _ _=>trivial) (hW.next _) hl8 ?_
 rw [hF.pp]
 simp only [go_sem,hcw,hcI,swC,aG,ax,hnB,List.length_map,gI,gL,gH,gD,gG,gC,gE,gM]
 refine iA (c:=aN) (ha.r) (hW.next _) hl9 ?_
 rw [hF.pp]
 simp only [go_sem,hcw,hcI,swC,aG,ax,hnB,List.length_map,gI,gL,gH,gD,gG,gC,gE,gM]
 refine iA (c:=bL) (fun _ _=>trivial) (hW.next _) hl10 ?_
 rw [hF.pp]
 rw [← hTot]
 rcases hR with ⟨h1,rfl⟩|⟨h1,h2,rfl⟩|⟨h1,h2,h3,rfl⟩|⟨h1,h2,h3,h4,rfl⟩|⟨h1,h2,h3,h4,rfl⟩
 ·skip
  try simp only [go_sem,hcw,hcI,swC,aG,ax,hnB,List.length_map,h1,zlk]
  try (repeat with_reducible refine Yq ?_)
  refine ⟨?_,by first|exact hlW _|(repeat refine lPq ?_ _;exact hlW _),hcl,?_⟩
  ·simp [wk,wk2,wk1,af,wkM,zll]
  ·simp [zns,znu,znv,zms,znf,zll,rt]
 ·skip
  try simp only [go_sem,hcw,hcI,swC,aG,ax,hnB,List.length_map,h1,h2,zlk]
  try (repeat with_reducible refine Yq ?_)
  refine ⟨?_,by first|exact hlW _|(repeat refine lPq ?_ _;exact hlW _),hcl,?_⟩
  ·simp [wk,wk2,wk1,af,wkM,zll]
  ·simp [zns,znu,znv,zms,znf,zll,rt]
 ·skip
  try simp only [go_sem,hcw,hcI,swC,aG,ax,hnB,List.length_map,h1,h2,h3,zlk]
  try (repeat with_reducible refine Yq ?_)
  refine ⟨?_,by first|exact hlW _|(repeat refine lPq ?_ _;exact hlW _),hcl,?_⟩
  ·simp [wk,wk2,wk1,af,wkM,zll]
  ·simp [zns,znu,znv,zms,znf,zll,rt]
 ·skip
  have d4:decide (((ge x).b.length:Int) > 8000)=true:=dtq (by omega)
  try simp only [go_sem,hcw,hcI,swC,aG,ax,hnB,List.length_map,h1,h2,h3,d4,zlk]
  try (repeat with_reducible refine Yq ?_)
  refine ⟨?_,by first|exact hlW _|(repeat refine lPq ?_ _;exact hlW _),hcl,?_⟩
  ·simp [wk,wk2,wk1,af,wkM,zll]
  ·simp [zns,znu,znv,zms,znf,zll,rt]
 ·skip
  have d4:decide (((ge x).b.length:Int) > 8000)=false:=dfq (by omega)
  try simp only [go_sem,hcw,hcI,swC,aG,ax,hnB,List.length_map,h1,h2,h3,d4,zlk]
  try (repeat with_reducible refine Yq ?_)
  refine ⟨?_,by first|exact hlW _|(repeat refine lPq ?_ _;exact hlW _),hcl,?_⟩
  ·simp [wk,wk2,wk1,af,wkM,zll]
  ·simp [zns,znu,znv,zms,znf,zll,rt]
theorem K5:ti Tryz.prog 22=some ⟨.slice 5,1,24,.slice .nil 1 []⟩:=by kernel_rfl
attribute [go_sem] K5
theorem Gu:ti Tryz.prog 28=some ⟨.slice 87,1,24,.slice .nil 1 []⟩:=by kernel_rfl
theorem D6:ti Tryz.prog 29=some ⟨.slice 57,1,24,.slice .nil 1 []⟩:=by kernel_rfl
theorem Fu:ti Tryz.prog 31=some ⟨.slice 48,1,24,.slice .nil 1 []⟩:=by kernel_rfl
theorem F4:ti Tryz.prog 25=some ⟨.slice 45,1,24,.slice .nil 1 []⟩:=by kernel_rfl
theorem Ft:ti Tryz.prog 84=some ⟨.slice 127,1,24,.slice .nil 1 []⟩:=by kernel_rfl
theorem E7:ti Tryz.prog 32=some ⟨.slice 50,1,24,.slice .nil 1 []⟩:=by kernel_rfl
theorem Fe:ti Tryz.prog 85=some ⟨.slice 125,1,24,.slice .nil 1 []⟩:=by kernel_rfl
theorem Ei:ti Tryz.prog 30=some ⟨.slice 76,1,24,.slice .nil 1 []⟩:=by kernel_rfl
theorem EN:ti Tryz.prog 23=some ⟨.slice 3,1,24,.slice .nil 1 []⟩:=by kernel_rfl
theorem HQ:ti Tryz.prog 87=some ⟨.struct [(0,3,false),(1,9,false),(2,84,false),(3,85,false),(4,9,false)],5,88,.agg [.int .i64 0,.str [],.slice .nil 1 [],.slice .nil 1 [],.str []]⟩:=by kernel_rfl
theorem IE:ti Tryz.prog 57=some ⟨.struct [(0,3,false),(1,9,false),(2,54,false),(3,23,false),(4,3,false),(5,55,false),(6,3,false),(7,9,false)],8,128,.agg [.int .i64 0,.str [],.slice .nil 1 [],.slice .nil 1 [],.int .i64 0,.slice .nil 1 [],.int .i64 0,.str []]⟩:=by kernel_rfl
theorem Id:ti Tryz.prog 48=some ⟨.struct [(0,3,false),(1,9,false),(2,46,false),(3,23,false),(4,3,false),(5,4,false)],6,88,.agg [.int .i64 0,.str [],.slice .nil 1 [],.slice .nil 1 [],.int .i64 0,.bool false]⟩:=by kernel_rfl
theorem Ii:ti Tryz.prog 45=some ⟨.struct [(0,3,false),(1,9,false),(2,3,false)],3,32,.agg [.int .i64 0,.str [],.int .i64 0]⟩:=by kernel_rfl
theorem H9:ti Tryz.prog 127=some ⟨.struct [(0,9,false),(1,3,false)],2,24,.agg [.str [],.int .i64 0]⟩:=by kernel_rfl
theorem IY:ti Tryz.prog 125=some ⟨.struct [(0,3,false),(1,3,false),(2,123,false)],6,48,.agg [.int .i64 0,.int .i64 0,.int .i64 0,.int .i64 0,.int .u64 0,.int .u64 0]⟩:=by kernel_rfl
theorem I9:ti Tryz.prog 123=some ⟨.struct [(0,3,false),(1,3,false),(2,119,false)],4,32,.agg [.int .i64 0,.int .i64 0,.int .u64 0,.int .u64 0]⟩:=by kernel_rfl
theorem Jk:ti Tryz.prog 50=some ⟨.struct [(0,3,false),(1,3,false),(2,3,false),(3,3,false),(4,3,false),(5,3,false)],6,48,.agg [.int .i64 0,.int .i64 0,.int .i64 0,.int .i64 0,.int .i64 0,.int .i64 0]⟩:=by kernel_rfl
theorem HJ:ti Tryz.prog 76=some ⟨.struct [(0,3,false),(1,3,false)],2,16,.agg [.int .i64 0,.int .i64 0]⟩:=by kernel_rfl
attribute [go_sem] Gu D6 Fu F4 Ft E7 Fe Ei EN HQ IE Id Ii H9 IY I9 Jk HJ
theorem xy {v:Nat} (h:v<2^128):(lK v).length≤17:=by
 unfold lK
 rw [List.length_cons,mT]
 have:=u3 h
 omega
theorem cE (n w:Int):(eI n w).b.length≤4:=cS n w
theorem kQ (s:List UInt8) (m:Int):(kT s m).b.length≤65537:=y9 s
theorem vz {v:Nat} (h:km v):(jw v).b.length≤17:=xy h
theorem vu (x:Bool):(je x).b.length≤1:=by simp [je]
theorem Gq {α:Type} {g:α→Enc} {B:Nat}:∀ {l:List α},(∀ a∈l,(g a).b.length≤B)→(bZ g l).b.length≤l.length*B
 |[],_=>Nat.zero_le _
 |x::l,h=>by
  rw [bZ,bW,List.length_cons,Nat.succ_mul]
  have:=h x List.mem_cons_self
  have:=Gq (l:=l) fun a ha=>h a (List.mem_cons_of_mem _ ha)
  omega
theorem eM {α:Type} {g:α→Enc} {m:Int} {n B:Nat} {l:List α} (hl:l.length≤n) (h:∀ a∈l,(g a).b.length≤B):(b5 g m l).b.length≤4+n*B:=by
 unfold b5 ea
 rw [bW]
 have h1:=Gq h
 have h2:=cS (l.length:Int) 2
 have h3:l.length*B≤n*B:=Nat.mul_le_mul_right _ hl
 dsimp only
 omega
structure SmP (N R:Nat) (x:Sch):Prop where
 f:x.fields.length≤N∧∀ a∈x.fields,mA a.name
 h:x.headers.length≤N∧∀ a∈x.headers,mA a.name∧a.fields.length≤R
 s:x.states.length≤N∧∀ a∈x.states,a.cases.length≤R∧∀ c∈a.cases,lO c
 a:x.actions.length≤N∧∀ a∈x.actions,l5 a∧a.params.length≤R∧a.body.length≤R
 t:x.tables.length≤N∧∀ a∈x.tables,nG a∧a.keys.length≤R∧a.actions.length≤R∧a.dargs.length≤R
 g:x.stages.length≤R
 r:x.roles.length≤N∧∀ a∈x.roles,mA a.name∧a.grants.length≤R∧a.actions.length≤R∧∀ q∈a.grants,q.keys.length≤R
 x:x.refs.length≤R
theorem SmP.ok {N R:Nat} {x:Sch} (h:SmP N R x):OkSch x :=
 ⟨h.f.2,fun a ha=>(h.h.2 a ha).1,fun a ha=>(h.s.2 a ha).2,fun a ha=>(h.a.2 a ha).1,fun a ha=>(h.t.2 a ha).1,fun a ha=>(h.r.2 a ha).1⟩
theorem SmP.mono {N R N' R':Nat} {x:Sch} (h:SmP N R x) (hN:N≤N') (hR:R≤R'):SmP N' R' x where
 f:=⟨Nat.le_trans h.f.1 hN,h.f.2⟩
 h:=⟨Nat.le_trans h.h.1 hN,fun a ha=>⟨(h.h.2 a ha).1,Nat.le_trans (h.h.2 a ha).2 hR⟩⟩
 s:=⟨Nat.le_trans h.s.1 hN,fun a ha=>⟨Nat.le_trans (h.s.2 a ha).1 hR,(h.s.2 a ha).2⟩⟩
 a:=⟨Nat.le_trans h.a.1 hN,fun a ha=>⟨(h.a.2 a ha).1,Nat.le_trans (h.a.2 a ha).2.1 hR,Nat.le_trans (h.a.2 a ha).2.2 hR⟩⟩
 t:=⟨Nat.le_trans h.t.1 hN,fun a ha=>⟨(h.t.2 a ha).1,Nat.le_trans (h.t.2 a ha).2.1 hR,Nat.le_trans (h.t.2 a ha).2.2.1 hR,Nat.le_trans (h.t.2 a ha).2.2.2 hR⟩⟩
 g:=Nat.le_trans h.g hR
 r:=⟨Nat.le_trans h.r.1 hN,fun a ha=>⟨(h.r.2 a ha).1,Nat.le_trans (h.r.2 a ha).2.1 hR,Nat.le_trans (h.r.2 a ha).2.2.1 hR,fun q hq=>Nat.le_trans ((h.r.2 a ha).2.2.2 q hq) hR⟩⟩
 x:=Nat.le_trans h.x hR
theorem SmP.len {x:Sch} (h:SmP 50 1100000 x):(ge x).b.length≤cz:=by
 have e1:(b5 gT 32 x.fields).b.length≤4+50*65545:=eM h.f.1 fun a _=>by
  unfold gT;rw [bW,bW]
  have:=cE a.id 2;have:=kQ a.name 24;have:=cE a.bits 1;omega
 have e2:(b5 fH 8 x.headers).b.length≤4+50*(65545+1100000*4):=eM h.h.1 fun a ha=>by
  unfold fH;rw [bW,bW]
  have:=cE a.id 2;have:=kQ a.name 24
  have:=eM (g:=kN) (m:=32) (h.h.2 a ha).2 (B:=4) fun n _=>cE n 2
  omega
 have e3:(b5 gO 12 x.states).b.length≤4+50*(20+1100000*38):=eM h.s.1 fun a ha=>by
  unfold gO;rw [bW,bW,bW,bW]
  have:=cE a.id 2;have:=cE a.header 2;have:=cE a.select 2;have:=cE a.dflt 2
  have:=eM (g:=jL) (m:=6) (h.s.2 a ha).1 (B:=38) fun c hc=>by
   unfold jL;rw [bW,bW]
   have:=vz ((h.s.2 a ha).2 c hc).1;have:=vz ((h.s.2 a ha).2 c hc).2;have:=cE c.next 2;omega
  omega
 have e4:(b5 fI 12 x.actions).b.length≤4+50*(131086+1100000*65541+1100000*33):=eM h.a.1 fun a ha=>by
  unfold fI;rw [bW,bW,bW,bW]
  obtain ⟨h1,h2,h3⟩:=h.a.2 a ha
  have:=cE a.id 2;have:=kQ a.name 24;have:=kQ a.restr 400
  have:=eM (g:=ik) (m:=4) h2 (B:=65541) fun c hc=>by
   unfold ik;rw [bW]
   have:=kQ c.name 24;have:=cE c.bits 1;omega
  have:=eM (g:=j5) (m:=12) h3 (B:=33) fun c hc=>by
   unfold j5;rw [bW,bW,bW,bW]
   have:=cE c.op 1;have:=cE c.dst 2;have:=cE c.kind 1;have:=cE c.n 2;have:=vz (h1.2.2.1 c hc);omega
  omega
 have e5:(b5 gN 8 x.tables).b.length≤4+50*(131098+1100000*65545+1100000*4+1100000*17):=eM h.t.1 fun a ha=>by
  unfold gN;simp only [bW]
  obtain ⟨h1,h2,h3,h4⟩:=h.t.2 a ha
  have:=cE a.id 2;have:=kQ a.name 24;have:=kQ a.restr 400;have:=cE a.dflt 2;have:=cE a.size 2
  have:=eM (g:=nH) (m:=4) h2 (B:=65545) fun c hc=>by
   unfold nH;rw [bW,bW]
   have:=kQ c.name 24;have:=cE c.field 2;have:=cE c.kind 1;omega
  have:=eM (g:=kN) (m:=12) h3 (B:=4) fun n _=>cE n 2
  have:=eM (g:=jw) (m:=4) h4 (B:=17) fun v hv=>vz (h1.2.2.1 v hv)
  omega
 have e6:(b5 gW 12 x.stages).b.length≤4+1100000*8:=eM h.g fun a _=>by
  unfold gW;rw [bW]
  have:=cE a.table 2;have:=cE a.header 2;omega
 have e7:(b5 jy 6 x.roles).b.length≤4+50*(65560+1100000*(10+1100000*1)+1100000*4):=eM h.r.1 fun a ha=>by
  unfold jy;simp only [bW]
  obtain ⟨h1,h2,h3,h4⟩:=h.r.2 a ha
  have:=cE a.id 2;have:=kQ a.name 24;have:=cE a.quota 2;have:=vu a.audit
  have:=eM (g:=iq) (m:=8) h2 (B:=10+1100000*1) fun c hc=>by
   unfold iq;simp only [bW]
   have:=cE c.table 2;have:=vu c.read;have:=vu c.write
   have:=eM (g:=je) (m:=4) (h4 c hc) (B:=1) fun y _=>vu y
   omega
  have:=eM (g:=kN) (m:=12) h3 (B:=4) fun n _=>cE n 2
  omega
 have e8:(b5 mV 8 x.refs).b.length≤4+1100000*24:=eM h.x fun a _=>by
  unfold mV;simp only [bW]
  have:=cE a.table 2;have:=cE a.key 1;have:=cE a.action 2;have:=cE a.param 1;have:=cE a.toTable 2;have:=cE a.toKey 1;omega
 unfold ge pw
 simp only [bW]
 rw [bo]
 have:=cE x.maxBatch 2;have:=cE x.budget 2
 omega
theorem yv:ti Tryz.prog 39=some ⟨.slice 34,1,24,.slice .nil 1 []⟩:=by kernel_rfl
attribute [go_sem] yv
theorem dt {s:List UInt8} (h:s.length≤1000):mA s:=by unfold mA;rw [bo];omega
theorem gB {v:Nat} (h:v≤1000):km v:=by unfold km;omega
theorem rN (b:List UInt8) (v:Nat):(bX b v).1.length≤40∧∀ a∈(bX b v).1,a.cases.length≤1000∧∀ c∈a.cases,lO c:=by
 have h2:=jd (b:=b) (v:=v+2) (n:=2) (by decide)
 have h6:=jd (b:=b) (v:=v+6) (n:=3) (by decide)
 have h4:=jd (b:=b) (v:=v+4) (n:=3) (by decide)
 unfold bX
 (repeat' split)<;>refine ⟨by simp,fun a ha=>?_⟩<;>simp only [List.mem_cons,List.not_mem_nil,or_false] at ha<;>rcases ha with rfl|rfl|rfl<;>refine ⟨by simp,fun c hc=>?_⟩ <;>
   simp only [List.mem_cons,List.not_mem_nil,or_false] at hc <;>
   first
    |exact hc.elim
    |(subst hc;exact ⟨gB (by dsimp only;omega),gB (by dsimp only;omega)⟩)
    |(rcases hc with rfl|rfl<;>exact ⟨gB (by dsimp only;omega),gB (by dsimp only;omega)⟩)
    |(rcases hc with rfl|rfl|rfl<;>exact ⟨gB (by dsimp only;omega),gB (by dsimp only;omega)⟩)
theorem qR (b:List UInt8) (v:Nat):(dK b v).length=6∧∀ a∈dK b v,l5 a∧a.params.length≤1000∧a.body.length≤1000:=by
 have h1:=jd (b:=b) (v:=v+1) (n:=256) (by decide)
 refine ⟨rfl,fun a ha=>?_⟩
 simp only [dK,List.mem_cons,List.not_mem_nil,or_false] at ha
 rcases ha with rfl|rfl|rfl|rfl|rfl|rfl<;>refine ⟨⟨dt (by simp),fun p hp=>?_,fun p hp=>?_,dt (by dsimp only;(try split)<;>simp)⟩,by simp,by simp⟩<;>simp only [List.mem_cons,List.not_mem_nil,or_false] at hp <;>
  first
   |exact hp.elim
   |(subst hp;first|exact dt (by simp)|exact gB (by dsimp only;omega))
   |(rcases hp with rfl|rfl<;>first|exact dt (by simp)|exact gB (by dsimp only;omega))
   |(rcases hp with rfl|rfl|rfl<;>first|exact dt (by simp)|exact gB (by dsimp only;omega))
theorem kH {L:List (List UInt8)} (h:∀ s∈L,s.length≤1000) (i:Nat):mA (L.getD i []):=by
 rw [gEq]
 cases hi:L[i]? with
 |none=>exact dt (by simp)
 |some s=>exact dt (h s (List.mem_of_getElem? hi))
theorem rO (b:List UInt8) (v:Nat):(db b v).length=4∧∀ a∈db b v,nG a∧a.keys.length≤1000∧a.actions.length≤1000∧a.dargs.length≤1000:=by
 refine ⟨rfl,fun a ha=>?_⟩
 simp only [db,List.mem_cons,List.not_mem_nil,or_false] at ha
 rcases ha with rfl|rfl|rfl|rfl
 ·refine ⟨⟨dt (by simp [iP]),fun k hk=>?_,by simp [iP],kH (by decide) _⟩,by simp [iP],by simp [iP],by simp [iP]⟩
  simp only [iP,List.mem_cons,List.not_mem_nil,or_false] at hk
  subst hk;exact dt (by simp)
 ·refine ⟨⟨dt (by simp [iU]),fun k hk=>?_,by simp [iU],kH (by decide) _⟩,by simp only [iU];split<;>simp,by simp [iU],by simp [iU]⟩
  simp only [iU] at hk
  split at hk<;>simp only [List.cons_append,List.nil_append,List.append_nil,List.mem_cons,List.not_mem_nil,or_false] at hk
  ·rcases hk with rfl|rfl<;>exact dt (by simp)
  ·subst hk;exact dt (by simp)
 ·refine ⟨⟨dt (by simp [ej]),fun k hk=>?_,by simp [ej],kH (by decide) _⟩,by simp only [ej];split<;>simp,by simp [ej],by simp [ej]⟩
  simp only [ej] at hk
  split at hk<;>simp only [List.cons_append,List.nil_append,List.append_nil,List.mem_cons,List.not_mem_nil,or_false] at hk
  ·rcases hk with rfl|rfl|rfl<;>exact dt (by simp)
  ·rcases hk with rfl|rfl<;>exact dt (by simp)
 ·refine ⟨⟨dt (by simp [ei]),fun k hk=>?_,fun x hx=>?_,kH (by decide) _⟩,by simp only [ei];split<;>simp,by simp [ei],by simp [ei]⟩
  ·simp only [ei] at hk
   split at hk<;>simp only [List.cons_append,List.nil_append,List.append_nil,List.mem_cons,List.not_mem_nil,or_false] at hk
   ·rcases hk with rfl|rfl|rfl<;>exact dt (by simp)
   ·subst hk;exact dt (by simp)
  ·simp only [ei,List.mem_singleton] at hx
   subst hx;exact gB (by omega)
def GrOk (n:Nat) (l:List SGrant):Prop:=l.length≤n∧∀ q∈l,q.keys.length≤1000
theorem GrOk.nil {n:Nat}:GrOk n []:=⟨Nat.zero_le _,fun q hq=>by cases hq⟩
theorem GrOk.cons {n:Nat} {l:List SGrant} {q:SGrant} (h:GrOk n l) (hq:q.keys.length≤1000):GrOk (n+1) (q::l) :=
 ⟨Nat.succ_le_succ h.1,fun x hx=>(List.mem_cons.1 hx).elim (fun e=>e ▸ hq) (h.2 x)⟩
theorem GrOk.up {n:Nat} {l:List SGrant} (h:GrOk n l):GrOk (n+1) l:=⟨Nat.le_succ_of_le h.1,h.2⟩
theorem gz (b:List UInt8):∀ (ts:List STable) (v:Nat),(∀ t∈ts,t.keys.length≤1000)→GrOk ts.length (dj b ts v).1.1∧GrOk ts.length (dj b ts v).1.2.1∧GrOk ts.length (dj b ts v).1.2.2
 |[],v,_=>⟨.nil,.nil,.nil⟩
 |t::ts,v,h=>by
  have ht:=h t List.mem_cons_self
  have hp:∀ v,(ja b v t.keys.length).length≤1000:=fun v=>by simp [ja];exact ht
  have hr:(List.replicate t.keys.length true).length≤1000:=by simp;exact ht
  simp only [dj]
  rw [List.length_cons]
  split<;>split
  ·obtain ⟨i1,i2,i3⟩:=gz b ts (v+t.keys.length+3+3) fun x hx=>h x (List.mem_cons_of_mem _ hx)
   exact ⟨i1.cons hr,i2.cons (hp _),i3.cons hr⟩
  ·obtain ⟨i1,i2,i3⟩:=gz b ts (v+t.keys.length+3+1) fun x hx=>h x (List.mem_cons_of_mem _ hx)
   exact ⟨i1.cons hr,i2.cons (hp _),i3.up⟩
  ·obtain ⟨i1,i2,i3⟩:=gz b ts (v+t.keys.length+1+3) fun x hx=>h x (List.mem_cons_of_mem _ hx)
   exact ⟨i1.cons hr,i2.up,i3.cons hr⟩
  ·obtain ⟨i1,i2,i3⟩:=gz b ts (v+t.keys.length+1+1) fun x hx=>h x (List.mem_cons_of_mem _ hx)
   exact ⟨i1.cons hr,i2.up,i3.up⟩
theorem vQ (b:List UInt8) (v:Nat):SmP 40 1000 (fZ b v).1:=by
 unfold fZ
 dsimp only
 obtain ⟨t1,t2⟩:=rO b (cp (bX b (cp v 2)).2 4)
 obtain ⟨a1,a2⟩:=qR b (bX b (cp v 2)).2
 refine ⟨⟨(by decide:gFields.length≤40),fun a ha=>?_⟩,⟨(by decide:gHeaders.length≤40),fun a ha=>?_⟩,rN b _,⟨by dsimp only;omega,a2⟩,⟨by dsimp only;omega,t2⟩,?_,⟨by simp [iC],fun a ha=>?_⟩,?_⟩
 ·simp only [gFields,List.mem_cons,List.not_mem_nil,or_false] at ha
  rcases ha with rfl|rfl|rfl|rfl|rfl|rfl|rfl|rfl|rfl<;>exact dt (by simp)
 ·simp only [gHeaders,List.mem_cons,List.not_mem_nil,or_false] at ha
  rcases ha with rfl|rfl|rfl<;>exact ⟨dt (by simp),by simp⟩
 ·split<;>simp
 ·obtain ⟨g1,g2,g3⟩:=gz b (db b (cp (bX b (cp v 2)).2 4)) (cp (bX b (cp v 2)).2 16+4) fun t ht=>(t2 t ht).2.1
  rw [t1] at g1 g2 g3
  simp only [iC,List.mem_cons,List.not_mem_nil,or_false] at ha
  rcases ha with rfl|rfl|rfl
  ·exact ⟨dt (by simp),by have:=g1.1;dsimp only;omega,by simp,g1.2⟩
  ·exact ⟨dt (by simp),by have:=g2.1;dsimp only;omega,by simp,g2.2⟩
  ·exact ⟨dt (by simp),by have:=g3.1;dsimp only;omega,by simp,g3.2⟩
 ·(repeat' split)<;>simp
theorem s7 {b:List UInt8}:zod b 0=eU b (cp 0 0):=by
 unfold zod eU cp
 simp
end Go.AL
