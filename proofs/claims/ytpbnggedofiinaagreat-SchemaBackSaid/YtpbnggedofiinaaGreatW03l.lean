/- Lemmas of the proof; no condition. -/
import Derived.Test.YtpbnggedofiinaaGreatW03j
set_option linter.all false
set_option maxRecDepth 10000
open Go Go.AL Go.Proofs
namespace Go.AL
theorem AW:ti Tryz.prog 32=some ⟨.struct [(0,23,false),(1,24,false),(2,25,false),(3,26,false),(4,27,false),(5,28,false),(6,29,false),(7,30,false),(8,3,false),(9,3,false)],10,208,.agg [.slice .nil 1 [],.slice .nil 1 [],.slice .nil 1 [],.slice .nil 1 [],.slice .nil 1 [],.slice .nil 1 [],.slice .nil 1 [],.slice .nil 1 [],.int .i64 0,.int .i64 0]⟩:=by kernel_rfl
attribute [go_sem] AW
theorem rE {n sz:Nat}:AV.lt n (.slice .any sz []):=tu fun x hx=>absurd hx (by simp)
def u4 (x:Sch):List UInt8 × Int :=
 if (dr x).l=true then ([],3) else if (dr x).f=true then ([],2) else if (dr x).a=true then ([],4) else if 8000<(dr x).b.length then ([],3) else ((dr x).b,0)
def F6:List AV→AHeap→(AV→Prop)→Prop
 |[.agg l],_,K=>∃ x:Sch,(l=a9 x∧OkSch x∧(dr x).b.length≤ce)∧K (.tup [.slice .any 1 (bys (u4 x).1),.int .i64 (u4 x).2])
 |_,_,_=>False
theorem SOn.leq {H HB:AHeap} {id q:Nat} {s0 s:Enc} (hW:SOn HB id q s0) (hle:H.Le HB) (h1:H.nx≤id) (h2:H.nx≤q):H.Le (swH HB id q s):=by
 refine ⟨hle.nx,fun j x hj=>?_⟩
 have hj2:=glq hj
 unfold swH
 rw [AHeap.get_set_ne _ _ (by omega),AHeap.get_set_ne _ _ (by omega)]
 exact hle.get _ _ hj
theorem xA {x:Sch} {RE:List UInt8 × Int} (h:u4 x=RE) :
 ((dr x).l=true∧RE=([],3))∨((dr x).l=false∧(dr x).f=true∧RE=([],2))∨((dr x).l=false∧(dr x).f=false∧(dr x).a=true∧RE=([],4)) ∨
 ((dr x).l=false∧(dr x).f=false∧(dr x).a=false∧8000<(dr x).b.length∧RE=([],3))∨((dr x).l=false∧(dr x).f=false∧(dr x).a=false∧(dr x).b.length≤8000∧RE=((dr x).b,0)):=by
 subst h
 unfold u4
 cases (dr x).l<;>cases (dr x).f<;>cases (dr x).a<;>simp
 omega
theorem zl (x:Sch):enc0.add (dr x)=(((((((((enc0.add (dZ x.maxBatch 2)).add (dZ x.budget 2)).add (bC im 32 x.fields)).add (bC fD 8 x.headers)).add (bC iK 12 x.states)).add (bC fA 12 x.actions)).add (bC io 8 x.tables)).add (bC i9 12 x.stages)).add (bC jU 6 x.roles)).add (bC nE 8 x.refs):=by
 unfold dr cb
 simp only [am]
def xK:=F6
set_option maxHeartbeats 16000000 in
theorem ok_zEnc:EntOk Tryz.prog 19 (Ent.pure xK):=by
 unfold xK
 refine Ype fun _ H K h=>?_
 unfold F6 at h
 split at h
 rotate_left
 ·exact h.elim
 rename_i l
 obtain ⟨x,⟨rfl,ha,hl⟩,hK⟩:=h
 refine ⟨_,hK,?_⟩
 clear hK
 refine ACalls.fW ag (tCq fE (tCq od (tCq sQ (tCq oh (tCq tL (tCq nW (tCq s7 (tCq oQ (tCq sL (tCq nV (tCq tJ (tCq oy (tCq sV (tCq ov (tCq tG (tCq nS (tCq tD tNq))))))))))))))))) Tryz.func19 [.tmp 2,.tmp 3] (nrq _) (T:=af [(4,[[],[],[],[0,2]]),(5,[[],[],[],[0,2]]),(6,[[],[],[],[0,2]]),(7,[[],[],[],[0,2]]),(8,[[],[],[],[0,2]]),(9,[[],[],[],[0,2]]),(10,[[],[],[],[0,2]]),(11,[[],[],[],[0,2]]),(2,[[1]])]) (h:=fun hcl hlt=>?_)
 clear hlt
 simp only [go_sem,a9,fL]
 refine tm 4 0 1 (cs:=[AV.slice .nil 1 [],.bool false,.bool false,.bool false]) rfl (by simp only [go_sem]) rfl ?_
 obtain ⟨HB,hHB⟩:∃ HB,HB=(((H.push (.cells (a9 x))).push (.buf 1 0)).push (.cells (swC (H.nx+1+1+1) [] false false false))).push (.buf 1 0):=⟨_,rfl⟩
 have hnB:HB.nx=H.nx+1+1+1+1:=by rw [hHB];rfl
 have hW:SOn HB (H.nx+1+1) (H.nx+1+1+1) enc0:=by
  rw [hHB]
  exact ⟨by simp [zlh,zle,zll,swC,enc0],by simp [zlh,zle,enc0]⟩
 have hcB:HB.Closed:=by
  have h1:=cF (i:=H.nx+1+1) (cs:=swC (H.nx+1+1+1) [] false false false) (aF (a:=1) (b:=0) (aj (cs:=[]) (aF (a:=1) (b:=0) (aj (cs:=a9 x) hcl (by have:=kA (n:=H.nx+1) x;simp only [fL,znr] at this;exact this))) trivial)) (by simp only [swC,znu,znv,zng,and_true,zle];rw [aC];exact ⟨fun id h=>(by cases h;omega),trivial⟩)
  simp only [go_sem] at h1
  rw [hHB];exact h1
 have hcr:ay HB H.nx=some (a9 x):=by rw [hHB];simp only [go_sem]
 have hle:H.Le HB:=by rw [hHB];repeat first|exact .refl _|refine .push ?_ _
 have hcw:∀ s,ay (swH HB (H.nx+1+1) (H.nx+1+1+1) s) H.nx=some (a9 x):=fun s=>by rw [sR (by omega) (by omega),hcr]
 have hcI:∀ s,ay (swH HB (H.nx+1+1) (H.nx+1+1+1) s) (H.nx+1+1)=some (swC (H.nx+1+1+1) s.b s.l s.f s.a):=fun s=>ax (hW.next s).o
 have hlW:∀ s,H.Le (swH HB (H.nx+1+1) (H.nx+1+1+1) s):=fun s=>hW.leq hle (by omega) (by omega)
 have hcl1:=fun t=>hW.closed (t:=t) hcB
 have hF:=hW.facts
 simp only [bhq,Nat.reduceMod,Nat.reduceDiv,bh,bg,bm,cz,bk,cy,cr,cx,cu,List.take_succ_cons,List.take_zero,List.drop_succ_cons,List.drop_zero,go_sem,zll,List.set_cons_zero]
 rw [show (((H.push (.cells [.slice .any 3 (x.fields.map br),.slice .any 3 (x.headers.map bc),.slice .any 5 (x.states.map a0),.slice .any 5 (x.actions.map aI),.slice .any 8 (x.tables.map aH),.slice .any 2 (x.stages.map bx),.slice .any 6 (x.roles.map bH),.slice .any 6 (x.refs.map cP),.int .i64 x.maxBatch,.int .i64 x.budget])).push (.buf 1 0)).push (.cells [.slice (.own (H.nx+1+1+1)) 1 [],.bool false,.bool false,.bool false])).push (.buf 1 0)=HB from hHB.symm]
 clear hHB
 obtain ⟨RE,hRE⟩:∃ RE,u4 x=RE:=⟨_,rfl⟩
 have hR:=xA hRE
 rw [hRE]
 have hTot:=zl x
 rw [bT] at hTot
 rw [hTot] at hl
 have hl10:=hl
 have hl9:=aE hl10
 have hl8:=aE hl9
 have hl7:=aE hl8
 have hl6:=aE hl7
 have hl5:=aE hl6
 have hl4:=aE hl5
 have hl3:=aE hl4
 have hl2:=aE hl3
 have hl1:=aE hl2
 try simp only [go_sem,hcw,hcI,swC,a9,ai,hnB,List.length_map,hcr,dl,dh,dq,df,di,dn,dj,dk]
 refine ek (.inr rfl) hW hl1 ?_
 simp only [go_sem,hcw,hcI,swC,a9,ai,hnB,List.length_map,dl,dh,dq,df,di,dn,dj,dk]
 refine ek (.inr rfl) (hW.next _) hl2 ?_
 rw [hF.pp]
 simp only [go_sem,hcw,hcI,swC,a9,ai,hnB,List.length_map,dl,dh,dq,df,di,dn,dj,dk]
 refine fX (c:=br) (ha.f) (hW.next _) hl3 ?_
 rw [hF.pp]
 simp only [go_sem,hcw,hcI,swC,a9,ai,hnB,List.length_map,dl,dh,dq,df,di,dn,dj,dk]
 refine fX (c:=bc) (ha.h) (hW.next _) hl4 ?_
 rw [hF.pp]
 simp only [go_sem,hcw,hcI,swC,a9,ai,hnB,List.length_map,dl,dh,dq,df,di,dn,dj,dk]
 refine fX (c:=a0) (ha.s) (hW.next _) hl5 ?_
 rw [hF.pp]
 simp only [go_sem,hcw,hcI,swC,a9,ai,hnB,List.length_map,dl,dh,dq,df,di,dn,dj,dk]
 refine fX (c:=aI) (ha.a) (hW.next _) hl6 ?_
 rw [hF.pp]
 simp only [go_sem,hcw,hcI,swC,a9,ai,hnB,List.length_map,dl,dh,dq,df,di,dn,dj,dk]
 refine fX (c:=aH) (ha.t) (hW.next _) hl7 ?_
 rw [hF.pp]
 simp only [go_sem,hcw,hcI,swC,a9,ai,hnB,List.length_map,dl,dh,dq,df,di,dn,dj,dk]
 refine fX (c:=bx) (fun _ _=>trivial) (hW.next _) hl8 ?_
 rw [hF.pp]
 simp only [go_sem,hcw,hcI,swC,a9,ai,hnB,List.length_map,dl,dh,dq,df,di,dn,dj,dk]
 refine fX (c:=bH) (ha.r) (hW.next _) hl9 ?_
 rw [hF.pp]
 simp only [go_sem,hcw,hcI,swC,a9,ai,hnB,List.length_map,dl,dh,dq,df,di,dn,dj,dk]
 refine fX (c:=cP) (fun _ _=>trivial) (hW.next _) hl10 ?_
 rw [hF.pp]
 rw [← hTot]
 rcases hR with ⟨h1,rfl⟩|⟨h1,h2,rfl⟩|⟨h1,h2,h3,rfl⟩|⟨h1,h2,h3,h4,rfl⟩|⟨h1,h2,h3,h4,rfl⟩
 ·skip
  try simp only [go_sem,hcw,hcI,swC,a9,ai,hnB,List.length_map,h1,zlk]
  try (repeat with_reducible refine Yq ?_)
  refine ⟨?_,by first|exact hlW _|(repeat refine lPq ?_ _;exact hlW _),hcl,?_⟩
  ·simp [wk,wk2,wk1,ak,wkM,zll]
  ·simp [zns,znu,znv,zms,znf,zll,rE]
 ·skip
  try simp only [go_sem,hcw,hcI,swC,a9,ai,hnB,List.length_map,h1,h2,zlk]
  try (repeat with_reducible refine Yq ?_)
  refine ⟨?_,by first|exact hlW _|(repeat refine lPq ?_ _;exact hlW _),hcl,?_⟩
  ·simp [wk,wk2,wk1,ak,wkM,zll]
  ·simp [zns,znu,znv,zms,znf,zll,rE]
 ·skip
  try simp only [go_sem,hcw,hcI,swC,a9,ai,hnB,List.length_map,h1,h2,h3,zlk]
  try (repeat with_reducible refine Yq ?_)
  refine ⟨?_,by first|exact hlW _|(repeat refine lPq ?_ _;exact hlW _),hcl,?_⟩
  ·simp [wk,wk2,wk1,ak,wkM,zll]
  ·simp [zns,znu,znv,zms,znf,zll,rE]
 ·skip
  have d4:decide (((dr x).b.length:Int) > 8000)=true:=dtq (by omega)
  try simp only [go_sem,hcw,hcI,swC,a9,ai,hnB,List.length_map,h1,h2,h3,d4,zlk]
  try (repeat with_reducible refine Yq ?_)
  refine ⟨?_,by first|exact hlW _|(repeat refine lPq ?_ _;exact hlW _),hcl,?_⟩
  ·simp [wk,wk2,wk1,ak,wkM,zll]
  ·simp [zns,znu,znv,zms,znf,zll,rE]
 ·skip
  have d4:decide (((dr x).b.length:Int) > 8000)=false:=dfq (by omega)
  try simp only [go_sem,hcw,hcI,swC,a9,ai,hnB,List.length_map,h1,h2,h3,d4,zlk]
  try (repeat with_reducible refine Yq ?_)
  refine ⟨?_,by first|exact hlW _|(repeat refine lPq ?_ _;exact hlW _),hcl,?_⟩
  ·simp [wk,wk2,wk1,ak,wkM,zll]
  ·simp [zns,znu,znv,zms,znf,zll,rE]
end Go.AL
