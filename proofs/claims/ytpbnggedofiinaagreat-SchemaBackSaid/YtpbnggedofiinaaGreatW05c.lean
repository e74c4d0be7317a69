/- Lemmas of the proof; no condition. -/
import Derived.Test.YtpbnggedofiinaaGreatW03l
import Derived.Test.YtpbnggedofiinaaGreatAlThaw
import Derived.Test.YtpbnggedofiinaaGreatLSBack
import Derived.Test.YtpbnggedofiinaaGreatW04k
import Derived.Test.YtpbnggedofiinaaGreatW03x
import Derived.Test.YtpbnggedofiinaaGreatW04f
set_option linter.all false
set_option maxRecDepth 10000
set_option maxHeartbeats 32000000
open List renaming length_cons → yaz, length_nil → yba, take_succ_cons → yaq, take_zero → yar, drop_succ_cons → yao, drop_zero → yap, length_map → ybb
open Go Go.AL Go.Proofs
namespace Go.AL
def r6 (H:AHeap) (n:Nat):AHeap:=⟨H.nx+4,fun i=>if i=H.nx+3 then some (.buf 1 n) else if i<H.nx then H.f i else none⟩
theorem CX {H:AHeap} {n:Nat}:(r6 H n).get (H.nx+1+1+1)=some (.buf 1 n):=by
 unfold AHeap.get r6;simp
theorem vr {H:AHeap} {n i:Nat} {o:AObj} (h:(r6 H n).get i=some o):(i=H.nx+3∧o=.buf 1 n)∨(i<H.nx∧H.get i=some o):=by
 unfold AHeap.get r6 at h
 dsimp only at h
 split at h
 ·split at h
  ·rename_i e;exact .inl ⟨e,(Option.some.inj h).symm⟩
  ·split at h
   ·rename_i hl;exact .inr ⟨hl,by unfold AHeap.get;rw [if_pos hl];exact h⟩
   ·cases h
 ·cases h
theorem DK {H:AHeap} {n i:Nat} (h:i<H.nx):(r6 H n).get i=H.get i:=by
 unfold AHeap.get r6
 dsimp only
 rw [if_pos (show i<H.nx+4 by omega),if_neg (by omega),if_pos h]
theorem pX {H:AHeap} {n:Nat} (hc:H.Closed):(r6 H n).Closed:=fun i cs h j hj=>by
 rcases vr h with ⟨_,e⟩|⟨_,h⟩
 ·cases e
 ·exact AV.lt_mono (show H.nx≤H.nx+4 by omega) _ (hc i cs h j hj)
theorem FH {H HB:AHeap} {s0 s:Enc} (hW:SOn HB (H.nx+1+1) (H.nx+1+1+1) s0) (hn:HB.nx=H.nx+1+1+1+1) (hle:H.Le HB):(r6 H s.b.length).Le (swH HB (H.nx+1+1) (H.nx+1+1+1) s):=by
 refine ⟨by rw [ai,hn];exact nrq _,fun i o h=>?_⟩
 rcases vr h with ⟨rfl,rfl⟩|⟨hl,h⟩
 ·exact (hW.next s).bu
 ·exact (hW.leq hle (by omega) (by omega)).get _ _ h
def tR:List AV→AHeap→(AEnd→AHeap→Prop)→Prop
 |[.agg l],H,K=>∃ x:Sch,(l=a9 x∧OkSch x∧(dr x).l=false∧(dr x).f=false∧(dr x).a=false∧(dr x).b.length≤8000)∧K (.ret (.tup [.slice (.own (H.nx+1+1+1)) 1 (bys (dr x).b),.int .i64 0])) (r6 H (dr x).b.length)
 |_,_,_=>False
theorem ok_zEncO:EntOk Tryz.prog 19 (Ent.effect tR):=by
 refine EntOk.effect fun args H K h=>?_
 unfold tR at h
 split at h
 rotate_left
 ·exact h.elim
 rename_i l
 obtain ⟨x,⟨rfl,ha,h1,h2,h3,h4⟩,hK⟩:=h
 have hl:(dr x).b.length≤ce:=Nat.le_trans h4 (by decide)
 refine ⟨_,_,hK,?_⟩
 clear hK
 refine ACalls.fW ag (tCq fE (tCq od (tCq sQ (tCq oh (tCq tL (tCq nW (tCq s7 (tCq oQ (tCq sL (tCq nV (tCq tJ (tCq oy (tCq sV (tCq ov (tCq tG (tCq nS (tCq tD tNq))))))))))))))))) Tryz.func19 [.tmp 2,.tmp 3] (Nat.le_add_right _ _) (T:=af [(4,[[],[],[],[0,2]]),(5,[[],[],[],[0,2]]),(6,[[],[],[],[0,2]]),(7,[[],[],[],[0,2]]),(8,[[],[],[],[0,2]]),(9,[[],[],[],[0,2]]),(10,[[],[],[],[0,2]]),(11,[[],[],[],[0,2]]),(2,[[1]])]) (h:=fun hcl hlt=>?_)
 clear hlt
 simp only [go_sem,a9,fL]
 refine tm 4 0 1 (cs:=[AV.slice .nil 1 [],.bool false,.bool false,.bool false]) rfl (by simp only [go_sem]) rfl ?_
 obtain ⟨HB,hHB⟩:∃ HB,HB=(((H.push (.cells (a9 x))).push (.buf 1 0)).push (.cells (swC (H.nx+1+1+1) [] false false false))).push (.buf 1 0):=⟨_,rfl⟩
 have hnB:HB.nx=H.nx+1+1+1+1:=by rw [hHB];rfl
 have hW:SOn HB (H.nx+1+1) (H.nx+1+1+1) enc0:=by
  rw [hHB]
  exact ⟨by simp [zlh,zle,zll,swC,enc0],by simp [zlh,zle,enc0]⟩
 have hcB:HB.Closed:=by
  have h1:=cF (i:=H.nx+1+1) (cs:=swC (H.nx+1+1+1) [] false false false) (aF (a:=1) (b:=0) (aj (cs:=[]) (aF (a:=1) (b:=0) (aj (cs:=a9 x) hcl (by have:=kA (n:=H.nx+1) x;simp only [fL,znr] at this;exact this))) trivial)) (by simp only [swC,znu,znv,zng,and_true,zle];rw [aC];exact ⟨fun id h=>(by cases h;omega),trivial⟩)
  simp only [go_sem] at h1
  rw [hHB];exact h1
 have hcr:ay HB H.nx=some (a9 x):=by rw [hHB];simp only [go_sem]
 have hle:H.Le HB:=by rw [hHB];repeat first|exact .refl _|refine .push ?_ _
 have hcw:∀ s,ay (swH HB (H.nx+1+1) (H.nx+1+1+1) s) H.nx=some (a9 x):=fun s=>by rw [sR (by omega) (by omega),hcr]
 have hcI:∀ s,ay (swH HB (H.nx+1+1) (H.nx+1+1+1) s) (H.nx+1+1)=some (swC (H.nx+1+1+1) s.b s.l s.f s.a):=fun s=>ax (hW.next s).o
 have hlW:∀ s,H.Le (swH HB (H.nx+1+1) (H.nx+1+1+1) s):=fun s=>hW.leq hle (by omega) (by omega)
 have hcl1:=fun t=>hW.closed (t:=t) hcB
 have hF:=hW.facts
 simp only [bhq,Nat.reduceMod,Nat.reduceDiv,bh,bg,bm,cz,bk,cy,cr,cx,cu,yaq,yar,yao,yap,go_sem,zll,List.set_cons_zero]
 rw [show (((H.push (.cells [.slice .any 3 (x.fields.map br),.slice .any 3 (x.headers.map bc),.slice .any 5 (x.states.map a0),.slice .any 5 (x.actions.map aI),.slice .any 8 (x.tables.map aH),.slice .any 2 (x.stages.map bx),.slice .any 6 (x.roles.map bH),.slice .any 6 (x.refs.map cP),.int .i64 x.maxBatch,.int .i64 x.budget])).push (.buf 1 0)).push (.cells [.slice (.own (H.nx+1+1+1)) 1 [],.bool false,.bool false,.bool false])).push (.buf 1 0)=HB from hHB.symm]
 clear hHB
 have hTot:=zl x
 rw [bT] at hTot
 rw [hTot] at hl
 have hl10:=hl
 have hl9:=aE hl10
 have hl8:=aE hl9
 have hl7:=aE hl8
 have hl6:=aE hl7
 have hl5:=aE hl6
 have hl4:=aE hl5
 have hl3:=aE hl4
 have hl2:=aE hl3
 have hl1:=aE hl2
 try simp only [go_sem,hcw,hcI,swC,a9,ai,hnB,ybb,hcr,dl,dh,dq,df,di,dn,dj,dk]
 refine ek (.inr rfl) hW hl1 ?_
 simp only [go_sem,hcw,hcI,swC,a9,ai,hnB,ybb,dl,dh,dq,df,di,dn,dj,dk]
 refine ek (.inr rfl) (hW.next _) hl2 ?_
 rw [hF.pp]
 simp only [go_sem,hcw,hcI,swC,a9,ai,hnB,ybb,dl,dh,dq,df,di,dn,dj,dk]
 refine fX (c:=br) (ha.f) (hW.next _) hl3 ?_
 rw [hF.pp]
 simp only [go_sem,hcw,hcI,swC,a9,ai,hnB,ybb,dl,dh,dq,df,di,dn,dj,dk]
 refine fX (c:=bc) (ha.h) (hW.next _) hl4 ?_
 rw [hF.pp]
 simp only [go_sem,hcw,hcI,swC,a9,ai,hnB,ybb,dl,dh,dq,df,di,dn,dj,dk]
 refine fX (c:=a0) (ha.s) (hW.next _) hl5 ?_
 rw [hF.pp]
 simp only [go_sem,hcw,hcI,swC,a9,ai,hnB,ybb,dl,dh,dq,df,di,dn,dj,dk]
 refine fX (c:=aI) (ha.a) (hW.next _) hl6 ?_
 rw [hF.pp]
 simp only [go_sem,hcw,hcI,swC,a9,ai,hnB,ybb,dl,dh,dq,df,di,dn,dj,dk]
 refine fX (c:=aH) (ha.t) (hW.next _) hl7 ?_
 rw [hF.pp]
 simp only [go_sem,hcw,hcI,swC,a9,ai,hnB,ybb,dl,dh,dq,df,di,dn,dj,dk]
 refine fX (c:=bx) (fun _ _=>trivial) (hW.next _) hl8 ?_
 rw [hF.pp]
 simp only [go_sem,hcw,hcI,swC,a9,ai,hnB,ybb,dl,dh,dq,df,di,dn,dj,dk]
 refine fX (c:=bH) (ha.r) (hW.next _) hl9 ?_
 rw [hF.pp]
 simp only [go_sem,hcw,hcI,swC,a9,ai,hnB,ybb,dl,dh,dq,df,di,dn,dj,dk]
 refine fX (c:=cP) (fun _ _=>trivial) (hW.next _) hl10 ?_
 rw [hF.pp]
 rw [← hTot]
 have d4:decide (((dr x).b.length:Int) > 8000)=false:=dfq (by omega)
 try simp only [go_sem,hcw,hcI,swC,a9,ai,hnB,ybb,h1,h2,h3,d4,zlk]
 try (repeat with_reducible refine Yq ?_)
 exact ⟨by simp [wk,wk2,wk1,ak,wkM],FH hW hnB hle,pX hcl,by simp [zns,znu,znv,znf,zms,r6]⟩
theorem wz {l:List UInt8} {n k:Nat} (h:n=l.length):bM 1 n (bys l++List.replicate k AV.junk)=bys l:=by
 subst h
 induction l with
 |nil=>rfl
 |cons a l ih =>
  show bM 1 (l.length+1) (aO a::(bys l++List.replicate k AV.junk))=aO a::bys l
  simp only [bM,if_true,yao,yap,ih]
  rfl
theorem vW {n k:Nat} {l:List UInt8}:ltL n (bys l++List.replicate k AV.junk):=ltL_iff.2 fun j hj=>by
 rw [List.getElem_append]
 split
 ·exact ltL_iff.1 (of_eq_true zmp) j _
 ·rw [List.getElem_replicate,AV.lt]<;>simp
theorem jj {α:Type} {rd:RM α} {m:Int} (s:RS) (hm:0≤m) (hm2:m≤100):(rlX rd m s).1.length≤140737488355328:=by
 have:=F2 (rd:=rd) hm s
 omega
theorem Fg (s:RS):ub (fe LX s).1:=by
 unfold fe ub;dsimp only [rap,dD,yc]
 exact jj _ (by decide) (by decide)
theorem FB (s:RS):uR (fb LX s).1:=by
 unfold fb uR;dsimp only [rap,dD,yc]
 exact jj _ (by decide) (by decide)
theorem F9 (s:RS):tN (fg LX s).1:=by
 unfold fg tN;dsimp only [rap,dD,yc]
 exact ⟨jj _ (by decide) (by decide),jj _ (by decide) (by decide)⟩
theorem Gn (s:RS):uj (fc LX s).1:=by
 unfold fc uj;dsimp only [rap,dD,yc]
 exact ⟨jj _ (by decide) (by decide),jj _ (by decide) (by decide),jj _ (by decide) (by decide)⟩
theorem Fp (s:RS):uq (eY LX s).1:=by
 unfold eY uq;dsimp only [rap,dD,yc]
 exact jj _ (by decide) (by decide)
theorem E5 (s:RS):t7 (eZ LX s).1:=by
 unfold eZ t7;dsimp only [rap,dD,yc]
 exact ⟨jj _ (by decide) (by decide),jj _ (by decide) (by decide),mK Fp _ _⟩
theorem E6 (s:RS):CSch (kN LX s).1:=by
 unfold kN;dsimp only [rap,dD,yc,mkS]
 exact ⟨jj _ (by decide) (by decide),jj _ (by decide) (by decide),mK Fg _ _,jj _ (by decide) (by decide),mK FB _ _,jj _ (by decide) (by decide),mK F9 _ _,jj _ (by decide) (by decide),mK Gn _ _,
  jj _ (by decide) (by decide),jj _ (by decide) (by decide),mK E5 _ _,jj _ (by decide) (by decide)⟩
theorem uv:CSch pC:=by
 refine ⟨?_,?_,?_,?_,?_,?_,?_,?_,?_,?_,?_,?_,?_⟩<;>simp [pC]
theorem Dt (b:List UInt8):CSch (nO b).1:=by
 unfold nO
 split
 ·exact uv
 ·unfold ut
  split
  ·exact uv
  ·exact E6 _
theorem fa {x y:Enc} (h:(x.add y).l=false):x.l=false∧y.l=false:=by
 have h:(x.l||y.l)=false:=h
 rw [Bool.or_eq_false_iff] at h;exact h
theorem GE {α:Type} {g:α→Enc}:∀ {l:List α},(bD g l).l=false→∀ a∈l,(g a).l=false
 |x::l,h,a,ha=>by
  rw [bD] at h
  obtain ⟨h1,h2⟩:=fa h
  rw [List.mem_cons] at ha
  rcases ha with rfl|ha
  ·exact h1
  ·exact GE h2 a ha
theorem nI {α:Type} {g:α→Enc} {m:Int} {l:List α} (h:(bC g m l).l=false):∀ a∈l,(g a).l=false:=GE (fa h).2
theorem n4 {s:List UInt8} {m:Int} (h:(ld s m).l=false) (hm:m≤400):mh s:=by
 have h:decide ((s.length:Int) > m)=false:=h
 have:=of_decide_eq_false h
 unfold mh ce
 omega
theorem C5 {x:Sch} (h:rp x) (hn:(dr x).l=false):OkSch x:=by
 obtain ⟨_,_,_,_,hs,ha,ht,_,_,_⟩:=h
 unfold dr cb at hn
 have h1:=(fa (fa hn).2).2
 obtain ⟨hp,h2⟩:=fa h1
 obtain ⟨hf,hp2⟩:=fa hp
 obtain ⟨hh,_⟩:=fa hp2
 obtain ⟨hac,h3⟩:=fa h2
 obtain ⟨hta,h4⟩:=fa h3
 obtain ⟨_,h5⟩:=fa h4
 obtain ⟨hro,_⟩:=fa h5
 refine ⟨fun a h=>?_,fun a h=>?_,fun a h=>?_,fun a h=>?_,fun a h=>?_,fun a h=>?_⟩
 ·have:=nI hf a h
  unfold im at this
  exact n4 (fa (fa this).2).1 (by decide)
 ·have:=nI hh a h
  unfold fD at this
  exact n4 (fa (fa this).2).1 (by decide)
 ·exact fun c hc=>⟨((hs a h).2.2.2.1 c hc).1,((hs a h).2.2.2.1 c hc).2.1⟩
 ·have:=nI hac a h
  unfold fA at this
  obtain ⟨q1,q2⟩:=fa (fa this).2
  obtain ⟨q3,q4⟩:=fa q2
  obtain ⟨q5,q6⟩:=fa q4
  refine ⟨n4 q1 (by decide),fun p hp=>?_,fun p hp=>((ha a h).2.2.2.1 p hp).2.2.2.2,n4 q6 (by decide)⟩
  have:=nI q3 p hp
  unfold jx at this
  exact n4 (fa this).1 (by decide)
 ·have:=nI hta a h
  unfold io at this
  obtain ⟨q1,q2⟩:=fa (fa this).2
  obtain ⟨q3,q4⟩:=fa q2
  have q5:=(fa (fa (fa (fa q4).2).2).2).2
  refine ⟨n4 q1 (by decide),fun k hk=>?_,(ht a h).2.2.2.2.2.1,n4 q5 (by decide)⟩
  have:=nI q3 k hk
  unfold po at this
  exact n4 (fa this).1 (by decide)
 ·have:=nI hro a h
  unfold jU at this
  exact n4 (fa (fa this).2).1 (by decide)
theorem E3 {b:List UInt8} {y:Sch} {g:Int} (h:nO b=(y,g)) (hg:g≠0):y=pC:=by
 unfold nO at h
 split at h
 ·cases h;rfl
 ·unfold ut at h
  split at h
  ·cases h;rfl
  ·cases h;exact absurd rfl hg
theorem yj {b:List UInt8} {y:Sch} (h:nO b=(y,0)):OkSch y∧(dr y).b.length≤ce∧u4 y=(b,0):=by
 obtain ⟨h1,⟨h2,h3,h4⟩,h5,h6⟩:=GR h
 refine ⟨C5 h5 h2,by rw [h1];exact Nat.le_trans h6 (by decide),?_⟩
 unfold u4
 rw [h2,h3,h4,h1]
 simp only [Bool.false_eq_true,if_false]
 rw [if_neg (by omega)]
theorem ACalls.wkA {P:Program} {f:FuncId} {args args':List AV} {H H1:AHeap} {e:AEnd} (h:ACalls P f args' H e H1) (hw:lJ args args'):ACalls P f args H e H1:=fun w γ vs hs hr=>by
 obtain ⟨hl,hw⟩:=wkDL_iff.1 hw
 exact h w γ vs hs ⟨hr.1.trans hl,fun j hj=>by
  obtain ⟨u,h1,h2⟩:=hr.2 j (by rw [hl];exact hj)
  exact ⟨u,h1,mU _ _ _ _ _ _ (hw j (by rw [hl];exact hj) hj) h2⟩⟩
def zC:List AV:=[.slice .nil 1 [],.slice .nil 1 [],.slice .nil 1 [],.slice .nil 1 [],.slice .nil 1 [],.slice .nil 1 [],.slice .nil 1 [],.slice .nil 1 [],.int .i64 0,.int .i64 0]
def DV (args:List AV) (H:AHeap) (K:AV→Prop):Prop:=tt args H K∨∃ x:Sch,(args=[.agg (a9 x),.agg zC]∧CSch x)∧K (.bool (ni x pC))
theorem oY:EntOk Tryz.prog 21 (Ent.pure DV):=by
 refine Ype fun args H K h=>?_
 rcases h with h|⟨x,⟨rfl,hc⟩,hK⟩
 ·exact ok_ySame.1 rfl args H K h
 ·obtain ⟨v,hv,hc⟩:=ok_ySame.1 rfl [.agg (a9 x),.agg (a9 pC)] H (fun v=>v=.bool (ni x pC)) ⟨x,pC,⟨rfl,rfl,hc,uv⟩,rfl⟩
  subst hv
  refine ⟨_,hK,hc.wkA ?_⟩
  simp [fH,gM,Ef,jF,zC,a9,pC,fJ,wkDL_same]
def Fl (args:List AV) (H:AHeap) (K:AEnd→AHeap→Prop):Prop:=tR args H K∨F6 args H fun v=>K (.ret v) H
theorem EP:EntOk Tryz.prog 19 (Ent.effect Fl):=by
 refine EntOk.effect fun args H K h=>?_
 rcases h with h|h
 ·exact ok_zEncO.2.1 rfl args H K h
 ·obtain ⟨v,hv,hc⟩:=ok_zEnc.1 rfl args H _ h
  exact ⟨_,_,hv,hc⟩
def ED:List AV→AHeap→(AV→Prop)→Prop:=DV
theorem yi:EntOk Tryz.prog 21 (Ent.pure ED):=oY
theorem le_zero {H G:AHeap} (h:H.nx=0):H.Le G:=⟨by omega,fun i o ho=>by have:=glq ho;omega⟩
theorem wZ {n0:Nat} {fr:Fr} {H:AHeap} {K:Fr→AHeap→Prop} (hn:n0=0) (s id sz:Nat) (xs:List AV) (fr':Fr) (Hk:AHeap) (h1:Fr.get fr s=.slice (.own id) sz xs) (h2:H.get id=some (.buf sz xs.length)) (h3:xs≠[]) (h4:tg xs) (h5:Hk.Le H) (h6:∀ i o,Hk.get i=some o→i≠id∧∃ sz n,o=.buf sz n) (h7:sU Hk fr' fr)
 (h:K ((s,.ms Hk.nx 0 sz xs.length)::fr') (Hk.push (.part (xs.flatMap AV.cells)))):jS n0 K fr H:=by
 subst hn;exact Bi s id sz xs fr' Hk h1 h2 h3 h4 h5 h6 h7 h
theorem zN {l:List UInt8}:tg (bys l):=fun x hx y hy=>by
 obtain ⟨b,_,rfl⟩:=List.mem_map.1 hx
 have hy':y∈[aO b]:=hy
 rw [List.mem_singleton.1 hy'];rfl
theorem D4 {l:List UInt8}:(bys l).flatMap AV.cells=bys l:=by
 induction l with
 |nil=>rfl
 |cons a l ih=>show [aO a]++(bys l).flatMap AV.cells=aO a::bys l;rw [ih];rfl
theorem sx {H:AHeap} {o x:AObj} {id:Nat} (h:H.get id=some x):(H.push o).get id=some x:=by
 rw [gPq _ _ (glq h)];exact h
theorem zf {i:Nat} {o:AObj} (h:AHeap.none.get i=some o) {p:Prop}:p:=by rw [AHeap.none_get] at h;cases h
def oa:List AV→AHeap→(AV→Prop)→Prop
 |[.slice _ 1 l0,.int .i64 at',.int .u8 by'],H,K=>(isB l0 ∧ -9223372036854775808≤at'∧at'≤9223372036854775807∧0≤by'∧by'<256∧H.nx=0)∧K (.bool true)
 |_,_,_=>False
theorem ok_SchemaBack:EntOk Tryz.prog 4 (Ent.pure oa):=by
 refine Ype fun _ H K h=>?_
 unfold oa at h
 split at h
 rotate_left
 ·exact h.elim
 rename_i m0 l0 at' by'
 obtain ⟨⟨c0,ha1,ha2,hb1,hb2,hn0⟩,hK⟩:=h
 refine ⟨_,hK,?_⟩
 clear hK
 have oY:=yi
 obtain ⟨x1,rfl⟩:=eU c0
 clear c0
 obtain ⟨B1,hB1⟩:∃ B1,x1.take (min (x1.length:Int) 120).toNat=B1:=⟨_,rfl⟩
 have hL1:B1.length≤1000000:=by rw [← hB1,List.length_take];omega
 have hG:=(BD B1 0).mono (N':=50) (R':=1100000) (by decide) (by decide)
 obtain ⟨g1,g2,g3,g4⟩:=HJ B1 0
 have g5:=FN (gU B1 0).1
 generalize hS:gU B1 0=SS at *
 obtain ⟨S,w1⟩:=SS
 dsimp only at hG g1 g2 g3 g4 g5
 have hz1:zod B1 0=fo B1 (cp 0 0):=AR
 have hdec:=FJ hG.ok g1 g2 g3 g4
 have hcS:=Dt (dr S).b
 rw [hdec] at hcS
 dsimp only at hcS
 obtain ⟨W,hW⟩:∃ W,(dr S).b=W:=⟨_,rfl⟩
 refine ACalls.fW ag (tCq Fd (tCq wF (tCq EP (tCq ES (tCq Gk (tCq oY (tCq DP (tCq xE tNq)))))))) Tryz.func4 [.tmp 6] (nrq _) (T:=af [(6,[[1,1,30]])]) (h:=fun hcl hlt=>?_)
 clear hlt
 simp only [dt,du,bhq,Nat.reduceMod,Nat.reduceDiv,bh,bg,bm,cz,bk,cy,cr,cx,cu,yaq,yar,yao,yap,go_sem,byq,uU]
 refine ⟨x1,⟨rfl,by omega⟩,?_⟩
 rw [hB1,hz1]
 have hSch:pI=eG fun b v=>(fL (gU b v).1,(gU b v).2):=rfl
 simp only [dt,du,bhq,Nat.reduceMod,Nat.reduceDiv,bh,bg,bm,cz,bk,cy,cr,cx,cu,yaq,yar,yao,yap,go_sem,byq,uU,hSch,eG,bQ hL1,Nat.zero_min,cp0,hS,fL,a9]
 obtain ⟨HB,hHB⟩:∃ HB,(H.push (fo B1 w1)).push (.cells (a9 S))=HB:=⟨_,rfl⟩
 have hBn:HB.nx=H.nx+1+1:=by rw [← hHB];rfl
 have hBc:HB.Closed:=by rw [← hHB];exact aj (aj hcl jY) (by have:=kA (n:=H.nx+1+1) S;simp only [fL,znr] at this;exact this)
 have hBg:ay HB (H.nx+1)=some (a9 S):=by rw [← hHB];simp only [go_sem]
 simp only [a9] at hHB hBg
 rw [hHB]
 clear hHB
 refine .inl ⟨S,⟨rfl,hG.ok,g1,g2,g3,g4⟩,?_⟩
 rw [hW] at hdec g4 g5 ⊢
 obtain ⟨G,hGG⟩:∃ G,r6 HB W.length=G:=⟨_,rfl⟩
 have hGn:G.nx=H.nx+1+1+1+1+1+1:=by rw [← hGG,← hBn];rfl
 have hGc:G.Closed:=by rw [← hGG];exact pX hBc
 have hGb:G.get (H.nx+1+1+1+1+1)=some (.buf 1 W.length):=by rw [← hGG,← hBn];exact CX
 have hGs:ay G (H.nx+1)=some (a9 S):=by
  rw [← hGG]
  unfold ay
  rw [DK (by omega)]
  exact hBg
 simp only [a9] at hGs
 rw [hGG]
 clear hGG
 have hposW:0<W.length:=by omega
 have c0:((W.length:Int)==0)=false:=beq_eq_false_iff_ne.2 (by omega)
 simp only [dt,du,bhq,Nat.reduceMod,Nat.reduceDiv,bh,bg,bm,cz,bk,cy,cr,cx,cu,yaq,yar,yao,yap,go_sem,byq,hBn,xc,Hp]
 refine ⟨W,⟨rfl,by omega⟩,?_⟩
 rw [hdec]
 simp only [dt,du,bhq,Nat.reduceMod,Nat.reduceDiv,bh,bg,bm,cz,bk,cy,cr,cx,cu,yaq,yar,yao,yap,go_sem,byq,fL,a9,hGs,hGn]
 refine bK (fun h=>absurd h (by decide)) (fun _=>bK (fun h=>absurd h (by decide)) (fun _=>.inl ⟨S,S,⟨rfl,rfl,hcS,hcS⟩,?_⟩))
 simp only [dt,du,bhq,Nat.reduceMod,Nat.reduceDiv,bh,bg,bm,cz,bk,cy,cr,cx,cu,yaq,yar,yao,yap,go_sem,byq,fL,a9,hGs,hGn,lR,Bool.not_true,tQ,tt]
 refine ⟨S,S,⟨rfl,rfl,hcS,hcS⟩,bK (fun h=>by rw [lR] at h;cases h) (fun _=>?_)⟩
 simp only [dt,du,bhq,Nat.reduceMod,Nat.reduceDiv,bh,bg,bm,cz,bk,cy,cr,cx,cu,yaq,yar,yao,yap,go_sem,byq,fL,a9,hGs,hGn,lR,Bool.not_true,c0]
 refine wZ hn0 8 (H.nx+1+1+1+1+1) 1 (bys W) [(1,.int .i64 at'),(2,.int .u8 by')] AHeap.none rfl (by rw [zlk];exact sx hGb) (fun e=>by rw [zmt] at e;rw [e] at hposW;exact absurd hposW (by decide)) zN (AHeap.none_le _) (fun i o h=>zf h) ⟨⟨rfl,.inl rfl⟩,⟨rfl,.inl rfl⟩,trivial⟩ ?_
 rw [D4,zlk]
 refine Bm 0 (cs:=bys W) (AHeap.get_push_new AHeap.none _) fun kk=>?_
 obtain ⟨Hq,hHq⟩:∃ Hq,(AHeap.none.push (.part (bys W))).set 0 (.cells (bys W++List.replicate kk .junk))=Hq:=⟨_,rfl⟩
 have hq1:Hq.nx=1:=by rw [← hHq];rfl
 have hq2:ay Hq 0=some (bys W++List.replicate kk .junk):=by rw [← hHq];exact ax (AHeap.get_set_same _ _ (Nat.zero_lt_succ 0))
 have hq3:Hq.Closed:=by rw [← hHq];exact cF (fun i cs h=>by rcases AHeap.get_push_inv _ _ h with ⟨_,e⟩|⟨_,h⟩;cases e;exact zf h) vW
 rw [hHq]
 clear hHq
 obtain ⟨ia,hia⟩:∃ ia:Nat,at' % (W.length:Int)=(ia:Int):=⟨(at' % (W.length:Int)).toNat,by have:=Int.emod_nonneg at' (show ((W.length:Nat):Int)≠0 by omega);omega⟩
 have hial:ia<W.length:=by have:=Int.emod_lt_of_pos at' (show (0:Int)<((W.length:Nat):Int) by omega);omega
 have hgd:(bys W++List.replicate kk AV.junk).getD ia .junk=aO W[ia]:=by
  rw [gEq,List.getElem?_append_left (by rw [zlk];exact hial),← gEq,kJ hial]
  simp [gEq,hial]
 obtain ⟨eb,heb⟩:∃ eb:UInt8,AV.int .u8 (AU .u8 ((W[ia].toNat:Nat):Int) by')=aO eb:=by unfold AU;exact ⟨_,tW⟩
 have hsp:splice (bys W++List.replicate kk AV.junk) ia (bys [eb])=bys (W.set ia eb)++List.replicate kk AV.junk:=by
  show splice _ ia [aO eb]=_
  rw [nK,List.set_append_left _ _ (by rw [zlk];exact hial)]
  congr 1
  unfold bys;rw [List.map_set]
 have hrw:bM 1 W.length (bys (W.set ia eb)++List.replicate kk AV.junk)=bys (W.set ia eb):=wz (by rw [List.length_set])
 have hbl:(W.set ia eb).length=W.length:=List.length_set
 generalize W[ia]=cc at *
 generalize W.set ia eb=Bd at *
 have hgd':(bys W++List.replicate kk AV.junk).getD ia .junk=.int .u8 ((cc.toNat:Nat):Int):=hgd
 have hlc:(bys W++List.replicate kk AV.junk).length=W.length+kk:=by rw [lAq,zlk,List.length_replicate]
 have hle1:(1=1∧W.length≤W.length)=True:=eq_true ⟨rfl,nrq _⟩
 have hq4:(0:Nat)<Hq.nx:=by omega
 have n0:AHeap.none.nx=0:=rfl
 simp only [dt,du,bhq,Nat.reduceMod,Nat.reduceDiv,bh,bg,bm,cz,bk,cy,cr,cx,cu,yaq,yar,yao,yap,go_sem,byq,n0,xZ,hq2,hia,iNq]
 refine ⟨⟨by omega,by omega⟩,⟨by omega,by omega⟩,by rw [lAq,zlk];omega,?_⟩
 simp only [dt,du,bhq,Nat.reduceMod,Nat.reduceDiv,bh,bg,bm,cz,bk,cy,cr,cx,cu,yaq,yar,yao,yap,go_sem,byq,hq2,mV hq4,hgd',heb,hsp,hlc,zmd,zme]
 refine ⟨by omega,by omega,1,W.length,?_⟩
 simp only [dt,du,bhq,Nat.reduceMod,Nat.reduceDiv,bh,bg,bm,cz,bk,cy,cr,cx,cu,yaq,yar,yao,yap,go_sem,byq,hle1,hrw,nrq,eq_self,hbl,zok,zmd,zme,mV hq4,hq1]
 obtain ⟨Q,hQ⟩:∃ Q,((Hq.set 0 (AObj.cells (bys Bd++List.replicate kk AV.junk))).del 0).push (AObj.buf 1 W.length)=Q:=⟨_,rfl⟩
 have hQn:Q.nx=1+1:=by rw [← hQ];simp only [zle,iN,zlf,hq1]
 rw [hQ]
 clear hQ
 obtain ⟨⟨y,g⟩,hD⟩:∃ D,nO Bd=D:=⟨_,rfl⟩
 have hcy:=Dt Bd
 rw [hD] at hcy
 dsimp only at hcy
 refine ⟨Bd,⟨rfl,by omega⟩,?_⟩
 rw [hD]
 have hz0:∀ G:AHeap,H.Le G:=fun G=>le_zero hn0
 simp only [dt,du,bhq,Nat.reduceMod,Nat.reduceDiv,bh,bg,bm,cz,bk,cy,cr,cx,cu,yaq,yar,yao,yap,go_sem,byq,fL,a9,hQn]
 refine ae (fun hg=>?_) (fun hg=>?_)
 ·have hg0:g≠0:=by simpa using hg
  have hyz:=E3 hD hg0
  subst hyz
  simp only [dt,du,bhq,Nat.reduceMod,Nat.reduceDiv,bh,bg,bm,cz,bk,cy,cr,cx,cu,yaq,yar,yao,yap,go_sem,byq,fL,a9,hQn]
  refine .inr ⟨pC,⟨rfl,uv⟩,?_⟩
  simp only [dt,du,bhq,Nat.reduceMod,Nat.reduceDiv,bh,bg,bm,cz,bk,cy,cr,cx,cu,yaq,yar,yao,yap,go_sem,byq,fL,a9,hQn,lR,mT]
  exact ⟨rfl,le_zero hn0,hcl,by rw [zng];trivial⟩
 ·have hg0:g=0:=by simpa using hg
  subst hg0
  obtain ⟨r1,r2,r3⟩:=yj hD
  simp only [dt,du,bhq,Nat.reduceMod,Nat.reduceDiv,bh,bg,bm,cz,bk,cy,cr,cx,cu,yaq,yar,yao,yap,go_sem,byq,fL,a9,hQn]
  refine .inr ⟨y,⟨rfl,r1,r2⟩,?_⟩
  rw [r3]
  simp only [dt,du,bhq,Nat.reduceMod,Nat.reduceDiv,bh,bg,bm,cz,bk,cy,cr,cx,cu,yaq,yar,yao,yap,go_sem,byq,fL,a9,hQn]
  refine bK (fun _=>bK (fun _=>?_) (fun h=>by simp at h)) (fun h=>by cases h)
  simp only [mT]
  exact ⟨rfl,le_zero hn0,hcl,by rw [zng];trivial⟩
end Go.AL
