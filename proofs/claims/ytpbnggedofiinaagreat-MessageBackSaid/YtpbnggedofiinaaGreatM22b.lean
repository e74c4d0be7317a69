/- Lemmas of the proof; no condition. -/
import Derived.Test.YtpbnggedofiinaaGreatM19j
import Derived.Test.YtpbnggedofiinaaGreatAlThaw
import Derived.Test.YtpbnggedofiinaaGreatM21c
set_option linter.all false
set_option maxRecDepth 10000
set_option maxHeartbeats 32000000
open List renaming length_cons → yaz, length_nil → yba, length_map → ybb, take_succ_cons → yaq, take_zero → yar, drop_succ_cons → yao, drop_zero → yap, nil_append → yak, append_nil → yaj
open Go Go.AL Go.Proofs
namespace Go.AL
def jy (H:AHeap) (n:Nat):AHeap:=⟨H.nx+4,fun i=>if i=H.nx+3 then some (.buf 1 n) else if i<H.nx then H.f i else none⟩
theorem yU {H:AHeap} {n:Nat}:(jy H n).get (H.nx+1+1+1)=some (.buf 1 n):=by
 unfold AHeap.get jy;simp
theorem yc {H:AHeap} {n i:Nat} {o:AObj} (h:(jy H n).get i=some o):(i=H.nx+3∧o=.buf 1 n)∨(i<H.nx∧H.get i=some o):=by
 unfold AHeap.get jy at h
 dsimp only at h
 split at h
 ·split at h
  ·rename_i e;exact .inl ⟨e,(Option.some.inj h).symm⟩
  ·split at h
   ·rename_i hl;exact .inr ⟨hl,by unfold AHeap.get;rw [if_pos hl];exact h⟩
   ·cases h
 ·cases h
theorem xS {H:AHeap} {n i:Nat} (h:i<H.nx):(jy H n).get i=H.get i:=by
 unfold AHeap.get jy
 dsimp only
 rw [if_pos (show i<H.nx+4 by omega),if_neg (by omega),if_pos h]
theorem gE {H:AHeap} {n:Nat} (hc:H.Closed):(jy H n).Closed:=fun i cs h j hj=>by
 rcases yc h with ⟨_,e⟩|⟨_,h⟩
 ·cases e
 ·exact AV.lt_mono (show H.nx≤H.nx+4 by omega) _ (hc i cs h j hj)
theorem mq {H HB:AHeap} {b:List UInt8} {w:Bool} (hq:H.nx+1+1+1<HB.nx) (hn:HB.nx=H.nx+1+1+1+1) (hle:H.Le (wrH HB (H.nx+1+1) (H.nx+1+1+1) b w)):(jy H b.length).Le (wrH HB (H.nx+1+1) (H.nx+1+1+1) b w):=by
 refine ⟨by show H.nx+4≤HB.nx;omega,fun i o h=>?_⟩
 rcases yc h with ⟨rfl,rfl⟩|⟨hl,h⟩
 ·unfold wrH
  rw [AHeap.get_set_ne _ _ (by omega),AHeap.get_set_same _ _ hq]
 ·exact hle.get _ _ h
def x9:List AV→AHeap→(AEnd→AHeap→Prop)→Prop
 |[.agg l],H,K=>∃ r:SReq,(l=aF r∧ROk r∧(ig r).2=0)∧K (.ret (.tup [.slice (.own (H.nx+1+1+1)) 1 (bys (ig r).1),.int .i64 0])) (jy H (ig r).1.length)
 |_,_,_=>False
theorem Dj:EntOk Tryz.prog 9 (Ent.effect x9):=by
 refine EntOk.effect fun args H K h=>?_
 unfold x9 at h
 split at h
 rotate_left
 ·exact h.elim
 rename_i l
 obtain ⟨r,⟨rfl,hr,he⟩,hK⟩:=h
 refine ⟨_,_,hK,?_⟩
 clear hK
 cases hp:gU r
 case false =>
  rw [show ig r=([],2) by unfold ig;rw [if_pos hp]] at he
  cases he
 by_cases h1:32<r.ups.length
 ·rw [show ig r=([],3) by unfold ig;rw [if_neg (by rw [hp];decide),if_pos (.inl h1)]] at he
  cases he
 have d1:decide ((r.ups.length:Int) > 32)=false:=dfq (by omega)
 by_cases h2:320<r.data.length
 ·rw [show ig r=([],3) by unfold ig;rw [if_neg (by rw [hp];decide),if_pos (.inr h2)]] at he
  cases he
 have d2:decide ((r.data.length:Int) > 320)=false:=dfq (by omega)
 have hk12:1≤r.kind∧r.kind≤6:=by
  unfold gU at hp
  rw [Bool.and_eq_true,decide_eq_true_eq] at hp
  exact hp.1
 have hk:=eE hk12.1 hk12.2
 have he0:ig r=if (!rg r.kind 1||eI r.kind r)=true then ([],4) else if 8000<(bI r).length then ([],3) else (bI r,0):=by
  unfold ig;rw [if_neg (by rw [hp];decide),if_neg (by omega)]
 have hlb:=qU r.kind hr
 have hln:=bW r.kind 1
 have hlw:(bI r).length≤600000:=by unfold bI;rw [lAq];omega
 obtain ⟨RE,hRE⟩:∃ RE,ig r=RE:=⟨_,rfl⟩
 rw [hRE] at he0 he ⊢
 refine ACalls.fW ah (tCq lA (tCq ip (tCq cT (tCq tZ (tCq sF (tCq sQ (tCq uf (tCq t9 (tCq ui tNq))))))))) Tryz.func9 [.tmp 2,.tmp 3] (Nat.le_add_right _ _) (T:=ae [(7,[[],[],[],[],[],[],[0],[],[0,2,6,7]]),(6,[[1]])]) (h:=fun hcl hlt=>?_)
 clear hlt
 simp only [go_sem,aF,ky]
 refine ⟨r,⟨rfl,hr.rc⟩,?_⟩
 rw [hp]
 try simp only [go_sem,byq,ybb,d1,d2]
 refine jq 4 0 1 (cs:=[AV.slice .nil 1 [],AV.bool false]) rfl (by simp only [go_sem]) rfl ?_
 obtain ⟨HB,hHB⟩:∃ HB,HB=(((H.push (.cells (aF r))).push (.buf 1 0)).push (.cells [.slice (.own (H.nx+1+1+1)) 1 [],.bool false])).push (.buf 1 0):=⟨_,rfl⟩
 have hnB:HB.nx=H.nx+1+1+1+1:=by rw [hHB];rfl
 have hWB:WOn HB (H.nx+1+1) (H.nx+1+1+1) [] false:=by
  rw [hHB]
  exact ⟨by simp [zlh,zle,zll],by simp [zlh,zle],by simp⟩
 have hcB:HB.Closed:=by
  have h1:=aP (i:=H.nx+1+1) (cs:=[.slice (.own (H.nx+1+1+1)) 1 [],.bool false]) (bj (a:=1) (b:=0) (aD (cs:=[]) (bj (a:=1) (b:=0) (aD (cs:=aF r) hcl (by have:=dN (n:=H.nx+1) r;simp only [bb,znr] at this;exact this))) trivial)) (by simp only [znu,znv,zng,and_true,zle];rw [lt_sliceL];exact ⟨fun id h=>(by cases h;omega),trivial⟩)
  simp only [go_sem] at h1
  rw [hHB];exact h1
 have hcr:ai HB H.nx=some (aF r):=by rw [hHB];simp only [go_sem,aF]
 have hle:H.Le HB:=by rw [hHB];repeat first|exact .refl _|refine .push ?_ _
 have hidB:=glq hWB.o
 have hqB:=glq hWB.bu
 have hc0:=fun b w=>(hWB.closed (b':=b) (wr':=w) hcB)
 have hcw:∀ b w,ai (wrH HB (H.nx+1+1) (H.nx+1+1+1) b w) H.nx=some (aF r):=fun b w=>by rw [qO (by omega) (by omega),hcr]
 have hcI:∀ b w,ai (wrH HB (H.nx+1+1) (H.nx+1+1+1) b w) (H.nx+1+1)=some [.slice (.own (H.nx+1+1+1)) 1 (bys b),.bool w]:=fun b w=>by
  unfold ai wrH
  rw [AHeap.get_set_same _ _ (by rw [zlf];exact hidB)]
 have hlW:∀ b w,H.Le (wrH HB (H.nx+1+1) (H.nx+1+1+1) b w):=fun b w=>by
  refine ⟨hle.nx,fun j x hj=>?_⟩
  have hj2:=glq hj
  unfold wrH
  rw [AHeap.get_set_ne _ _ (by omega),AHeap.get_set_ne _ _ (by omega)]
  exact hle.get _ _ hj
 have hcd:codL.length=6:=rfl
 have hl1:(aa r.kind 1).length≤1000:=by omega
 have hWK:WOn (wrH HB (H.nx+1+1) (H.nx+1+1+1) (aa r.kind 1) (!rg r.kind 1)) (H.nx+1+1) (H.nx+1+1+1) (aa r.kind 1) (!rg r.kind 1):=hWB.next (by omega)
 simp only [aF] at hHB hcr hcw
 simp only [bk,bh,bhq,Nat.reduceMod,Nat.reduceDiv,aA,az,aB,aZ,aC,aY,aS,aU,aV,yaq,yar,yao,yap,go_sem,byq,List.set_cons_zero,← hHB,aF,cx,hcr]
 refine ⟨H.nx+1+1+1,[],false,hWB,?_⟩
 simp only [yak,Bool.false_or]
 clear hHB
 obtain ⟨rw1,hrw1⟩:∃ w,bI r=w:=⟨_,rfl⟩
 rcases hk with hk|hk|hk|hk|hk|hk
 ·have hw:IntKind.i64.wrap (r.kind - 1)=0:=by rw [hk];decide
  have hg:codL.getD 0 .junk=.agg [.func (.func 113) [] [],.func (.func 114) [] [],.func (.func 116) [] []]:=rfl
  have et:((0:Int)).toNat=0:=rfl
  have hwr:aa r.kind 1++cd 1 r=bI r:=by unfold bI;rw [hk]
  have hbd:eI 1 r=eI r.kind r:=by rw [hk]
  simp only [go_sem,byq,hcw,aW,hw,hcd,et,hg,BP]
  refine ⟨by omega,H.nx+1+1+1,_,_,r,⟨hWK,rfl,hr,hl1⟩,?_⟩
  rw [bP hWB.ne,hwr,hbd]
  simp only [go_sem,byq,hcI]
  refine af (fun hb=>?_) (fun hb=>?_)
  ·rw [if_pos hb] at he0
   subst he0
   cases he
  ·rw [if_neg (by rw [hb];decide)] at he0
   simp only [go_sem,byq,hcI]
   refine af (fun hb2=>?_) (fun hb2=>?_)
   ·have hb3:8000<(bI r).length:=by simp at hb2;omega
    rw [if_pos hb3] at he0
    subst he0
    cases he
   ·have hb3:¬ 8000<(bI r).length:=by simp at hb2;omega
    rw [if_neg hb3] at he0
    subst he0
    simp only [go_sem,byq,hcI]
    exact ⟨by simp [wk,wk2,wk1,ak,wkM],mq hqB hnB (hlW _ _),gE hcl,by simp [zns,znu,znv,znf,zms,jy]⟩
 skip
 ·have hw:IntKind.i64.wrap (r.kind - 1)=1:=by rw [hk];decide
  have hg:codL.getD 1 .junk=.agg [.func (.func 118) [] [],.func (.func 119) [] [],.func (.func 120) [] []]:=rfl
  have et:((1:Int)).toNat=1:=rfl
  have hwr:aa r.kind 1++cd 2 r=bI r:=by unfold bI;rw [hk]
  have hbd:eI 2 r=eI r.kind r:=by rw [hk]
  simp only [go_sem,byq,hcw,aW,hw,hcd,et,hg,Bc]
  refine ⟨by omega,H.nx+1+1+1,_,_,r,⟨hWK,rfl,hr,hl1⟩,?_⟩
  rw [bP hWB.ne,hwr,hbd]
  simp only [go_sem,byq,hcI]
  refine af (fun hb=>?_) (fun hb=>?_)
  ·rw [if_pos hb] at he0
   subst he0
   cases he
  ·rw [if_neg (by rw [hb];decide)] at he0
   simp only [go_sem,byq,hcI]
   refine af (fun hb2=>?_) (fun hb2=>?_)
   ·have hb3:8000<(bI r).length:=by simp at hb2;omega
    rw [if_pos hb3] at he0
    subst he0
    cases he
   ·have hb3:¬ 8000<(bI r).length:=by simp at hb2;omega
    rw [if_neg hb3] at he0
    subst he0
    simp only [go_sem,byq,hcI]
    exact ⟨by simp [wk,wk2,wk1,ak,wkM],mq hqB hnB (hlW _ _),gE hcl,by simp [zns,znu,znv,znf,zms,jy]⟩
 skip
 ·have hw:IntKind.i64.wrap (r.kind - 1)=2:=by rw [hk];decide
  have hg:codL.getD 2 .junk=.agg [.func (.func 121) [] [],.func (.func 122) [] [],.func (.func 123) [] []]:=rfl
  have et:((2:Int)).toNat=2:=rfl
  have hwr:aa r.kind 1++cd 3 r=bI r:=by unfold bI;rw [hk]
  have hbd:eI 3 r=eI r.kind r:=by rw [hk]
  simp only [go_sem,byq,hcw,aW,hw,hcd,et,hg,A1]
  refine ⟨by omega,H.nx+1+1+1,_,_,r,⟨hWK,rfl,hr,hl1⟩,?_⟩
  rw [bP hWB.ne,hwr,hbd]
  simp only [go_sem,byq,hcI]
  refine af (fun hb=>?_) (fun hb=>?_)
  ·rw [if_pos hb] at he0
   subst he0
   cases he
  ·rw [if_neg (by rw [hb];decide)] at he0
   simp only [go_sem,byq,hcI]
   refine af (fun hb2=>?_) (fun hb2=>?_)
   ·have hb3:8000<(bI r).length:=by simp at hb2;omega
    rw [if_pos hb3] at he0
    subst he0
    cases he
   ·have hb3:¬ 8000<(bI r).length:=by simp at hb2;omega
    rw [if_neg hb3] at he0
    subst he0
    simp only [go_sem,byq,hcI]
    exact ⟨by simp [wk,wk2,wk1,ak,wkM],mq hqB hnB (hlW _ _),gE hcl,by simp [zns,znu,znv,znf,zms,jy]⟩
 skip
 ·have hw:IntKind.i64.wrap (r.kind - 1)=3:=by rw [hk];decide
  have hg:codL.getD 3 .junk=.agg [.func (.func 125) [] [],.func (.func 126) [] [],.func (.func 127) [] []]:=rfl
  have et:((3:Int)).toNat=3:=rfl
  have hwr:aa r.kind 1++cd 4 r=bI r:=by unfold bI;rw [hk]
  have hbd:eI 4 r=eI r.kind r:=by rw [hk]
  simp only [go_sem,byq,hcw,aW,hw,hcd,et,hg,Bu]
  refine ⟨by omega,H.nx+1+1+1,_,_,r,⟨hWK,rfl,hr,hl1⟩,?_⟩
  rw [bP hWB.ne,hwr,hbd]
  simp only [go_sem,byq,hcI]
  refine af (fun hb=>?_) (fun hb=>?_)
  ·rw [if_pos hb] at he0
   subst he0
   cases he
  ·rw [if_neg (by rw [hb];decide)] at he0
   simp only [go_sem,byq,hcI]
   refine af (fun hb2=>?_) (fun hb2=>?_)
   ·have hb3:8000<(bI r).length:=by simp at hb2;omega
    rw [if_pos hb3] at he0
    subst he0
    cases he
   ·have hb3:¬ 8000<(bI r).length:=by simp at hb2;omega
    rw [if_neg hb3] at he0
    subst he0
    simp only [go_sem,byq,hcI]
    exact ⟨by simp [wk,wk2,wk1,ak,wkM],mq hqB hnB (hlW _ _),gE hcl,by simp [zns,znu,znv,znf,zms,jy]⟩
 skip
 ·have hw:IntKind.i64.wrap (r.kind - 1)=4:=by rw [hk];decide
  have hg:codL.getD 4 .junk=.agg [.func (.func 128) [] [],.func (.func 129) [] [],.func (.func 130) [] []]:=rfl
  have et:((4:Int)).toNat=4:=rfl
  have hwr:aa r.kind 1++cd 5 r=bI r:=by unfold bI;rw [hk]
  have hbd:eI 5 r=eI r.kind r:=by rw [hk]
  simp only [go_sem,byq,hcw,aW,hw,hcd,et,hg,Bs]
  refine ⟨by omega,H.nx+1+1+1,_,_,r,⟨hWK,rfl,hr,hl1⟩,?_⟩
  rw [bP hWB.ne,hwr,hbd]
  simp only [go_sem,byq,hcI]
  refine af (fun hb=>?_) (fun hb=>?_)
  ·rw [if_pos hb] at he0
   subst he0
   cases he
  ·rw [if_neg (by rw [hb];decide)] at he0
   simp only [go_sem,byq,hcI]
   refine af (fun hb2=>?_) (fun hb2=>?_)
   ·have hb3:8000<(bI r).length:=by simp at hb2;omega
    rw [if_pos hb3] at he0
    subst he0
    cases he
   ·have hb3:¬ 8000<(bI r).length:=by simp at hb2;omega
    rw [if_neg hb3] at he0
    subst he0
    simp only [go_sem,byq,hcI]
    exact ⟨by simp [wk,wk2,wk1,ak,wkM],mq hqB hnB (hlW _ _),gE hcl,by simp [zns,znu,znv,znf,zms,jy]⟩
 skip
 ·have hw:IntKind.i64.wrap (r.kind - 1)=5:=by rw [hk];decide
  have hg:codL.getD 5 .junk=.agg [.func (.func 131) [] [],.func (.func 132) [] [],.func (.func 133) [] []]:=rfl
  have et:((5:Int)).toNat=5:=rfl
  have hwr:aa r.kind 1++cd 6 r=bI r:=by unfold bI;rw [hk]
  have hbd:eI 6 r=eI r.kind r:=by rw [hk]
  simp only [go_sem,byq,hcw,aW,hw,hcd,et,hg,Bq]
  refine ⟨by omega,H.nx+1+1+1,_,_,r,⟨hWK,rfl,hr,hl1⟩,?_⟩
  rw [bP hWB.ne,hwr,hbd]
  simp only [go_sem,byq,hcI]
  refine af (fun hb=>?_) (fun hb=>?_)
  ·rw [if_pos hb] at he0
   subst he0
   cases he
  ·rw [if_neg (by rw [hb];decide)] at he0
   simp only [go_sem,byq,hcI]
   refine af (fun hb2=>?_) (fun hb2=>?_)
   ·have hb3:8000<(bI r).length:=by simp at hb2;omega
    rw [if_pos hb3] at he0
    subst he0
    cases he
   ·have hb3:¬ 8000<(bI r).length:=by simp at hb2;omega
    rw [if_neg hb3] at he0
    subst he0
    simp only [go_sem,byq,hcI]
    exact ⟨by simp [wk,wk2,wk1,ak,wkM],mq hqB hnB (hlW _ _),gE hcl,by simp [zns,znu,znv,znf,zms,jy]⟩
structure PE2 (r:SResp):Prop where
 el:r.ents.length≤512
 rl:r.recs.length≤140737488355328
 dl:r.data.length≤140737488355328
 eo:∀ e∈r.ents,COk e
theorem PE.pe2 {r:SResp} (h:PE r):PE2 r:=⟨by have:=h.el;omega,h.rl,h.dl,h.eo⟩
def xZ:List AV→AHeap→(AEnd→AHeap→Prop)→Prop
 |[.agg l],H,K=>∃ r:SResp,(l=bR r∧PE2 r∧(nh r).2=0)∧K (.ret (.tup [.slice (.own (H.nx+1+1+1)) 1 (bys (nh r).1),.int .i64 0])) (jy H (nh r).1.length)
 |_,_,_=>False
theorem Cz:EntOk Tryz.prog 11 (Ent.effect xZ):=by
 refine EntOk.effect fun args H K h=>?_
 unfold xZ at h
 split at h
 rotate_left
 ·exact h.elim
 rename_i l
 obtain ⟨r,⟨rfl,hr,he⟩,hK⟩:=h
 refine ⟨_,_,hK,?_⟩
 clear hK
 have hel:=hr.el
 have hrl:=hr.rl
 have hdl:=hr.dl
 have ln:=fun n w=>bW n w
 have d1:decide ((r.ents.length:Int) > 512)=false:=dfq (by omega)
 by_cases h2:24<r.recs.length
 ·rw [show nh r=([],3) by unfold nh;rw [if_pos (.inl h2)]] at he
  cases he
 have d2:decide ((r.recs.length:Int) > 24)=false:=dfq (by omega)
 by_cases h3:1000<r.data.length
 ·rw [show nh r=([],3) by unfold nh;rw [if_pos (.inr h3)]] at he
  cases he
 have d3:decide ((r.data.length:Int) > 1000)=false:=dfq (by omega)
 have he0:nh r=if yq r=true then ([],4) else (jO r,0):=by
  unfold nh;rw [if_neg (by omega)]
 obtain ⟨RE,hRE⟩:∃ RE,nh r=RE:=⟨_,rfl⟩
 rw [hRE] at he0 he ⊢
 refine ACalls.fW ah (tCq ip (tCq Gd (tCq Bw (tCq Bn (tCq F6 tNq))))) Tryz.func11 [.tmp 2,.tmp 3] (Nat.le_add_right _ _) (T:=ae [(4,[[1]])]) (h:=fun hcl hlt=>?_)
 clear hlt
 simp only [go_sem,byq,bR,ybb,d1,d2,d3]
 refine jq 4 0 1 (cs:=[AV.slice .nil 1 [],AV.bool false]) rfl (by simp only [go_sem]) rfl ?_
 obtain ⟨HB,hHB⟩:∃ HB,HB=(((H.push (.cells (bR r))).push (.buf 1 0)).push (.cells [.slice (.own (H.nx+1+1+1)) 1 [],.bool false])).push (.buf 1 0):=⟨_,rfl⟩
 have hnB:HB.nx=H.nx+1+1+1+1:=by rw [hHB];rfl
 have hWB:WOn HB (H.nx+1+1) (H.nx+1+1+1) [] false:=by
  rw [hHB]
  exact ⟨by simp [zlh,zle,zll],by simp [zlh,zle],by simp⟩
 have hcB:HB.Closed:=by
  have h1:=aP (i:=H.nx+1+1) (cs:=[.slice (.own (H.nx+1+1+1)) 1 [],.bool false]) (bj (a:=1) (b:=0) (aD (cs:=[]) (bj (a:=1) (b:=0) (aD (cs:=bR r) hcl (by have:=pM (n:=H.nx+1) r;simp only [eA,znr] at this;exact this))) trivial)) (by simp only [znu,znv,zng,and_true,zle];rw [lt_sliceL];exact ⟨fun id h=>(by cases h;omega),trivial⟩)
  simp only [go_sem] at h1
  rw [hHB];exact h1
 have hcr:ai HB H.nx=some (bR r):=by rw [hHB];simp only [go_sem,bR]
 have hle:H.Le HB:=by rw [hHB];repeat first|exact .refl _|refine .push ?_ _
 have hidB:=glq hWB.o
 have hqB:=glq hWB.bu
 have hc0:=fun b w=>(hWB.closed (b':=b) (wr':=w) hcB)
 have hcw:∀ b w,ai (wrH HB (H.nx+1+1) (H.nx+1+1+1) b w) H.nx=some (bR r):=fun b w=>by rw [qO (by omega) (by omega),hcr]
 have hcI:∀ b w,ai (wrH HB (H.nx+1+1) (H.nx+1+1+1) b w) (H.nx+1+1)=some [.slice (.own (H.nx+1+1+1)) 1 (bys b),.bool w]:=fun b w=>by
  unfold ai wrH
  rw [AHeap.get_set_same _ _ (by rw [zlf];exact hidB)]
 have hlW:∀ b w,H.Le (wrH HB (H.nx+1+1) (H.nx+1+1+1) b w):=fun b w=>by
  refine ⟨hle.nx,fun j x hj=>?_⟩
  have hj2:=glq hj
  unfold wrH
  rw [AHeap.get_set_ne _ _ (by omega),AHeap.get_set_ne _ _ (by omega)]
  exact hle.get _ _ hj
 have hon:∀ b w,b.length≤1000000→WOn (wrH HB (H.nx+1+1) (H.nx+1+1+1) b w) (H.nx+1+1) (H.nx+1+1+1) b w:=fun b w h=>hWB.next (by omega)
 simp only [bR] at hHB hcr hcw
 simp only [bk,bh,bhq,Nat.reduceMod,Nat.reduceDiv,aA,az,aB,aZ,aC,aY,aS,aU,aV,yaq,yar,yao,yap,go_sem,byq,List.set_cons_zero,← hHB,bR,cx,hcr]
 refine ⟨H.nx+1+1+1,[],false,hWB,?_⟩
 simp only [yak,Bool.false_or]
 clear hHB
 have a1:=ln r.code 1
 have a2:=ln r.fail 2
 have a3:=ln (r.ents.length:Int) 2
 have a4:=ln (r.recs.length:Int) 2
 have a5:=ln r.reas 1
 have a6:=ln r.port 2
 simp only [bk,bh,go_sem,byq,hcw,hcI,bC,cx,jM,fm,ybb]
 refine ⟨H.nx+1+1+1,aa r.code 1,!rg r.code 1,hon _ _ (by first|omega|(simp only [lAq,kn,yaz,yba];omega)),?_⟩
 rw [bP hWB.ne]
 simp only [bk,bh,go_sem,byq,hcw,hcI,bC,cx,jM,fm,ybb]
 refine ⟨H.nx+1+1+1,aa r.code 1++aa r.fail 2,!rg r.code 1||!rg r.fail 2,hon _ _ (by first|omega|(simp only [lAq,kn,yaz,yba];omega)),?_⟩
 rw [bP hWB.ne]
 simp only [bk,bh,go_sem,byq,hcw,hcI,bC,cx,jM,fm,ybb]
 refine ⟨H.nx+1+1+1,aa r.code 1++aa r.fail 2++kn r.prim,!rg r.code 1||!rg r.fail 2,hon _ _ (by first|omega|(simp only [lAq,kn,yaz,yba];omega)),?_⟩
 rw [bP hWB.ne]
 obtain ⟨B0,hB0⟩:∃ B0,B0=sX r:=⟨_,rfl⟩
 obtain ⟨W0,hW0⟩:∃ W0,W0=(!rg r.code 1||!rg r.fail 2||!rg (r.ents.length:Int) 2):=⟨_,rfl⟩
 rw [show aa r.code 1++aa r.fail 2++kn r.prim++aa (r.ents.length:Int) 2=B0 from hB0.symm,← hW0]
 have hl0:B0.length≤30:=by rw [hB0];unfold sX;simp only [lAq,kn,yaz,yba];omega
 simp only [bk,bh,go_sem,byq,hcw,hcI,bC,cx,jM,fm,ybb]
 refine aK (A:=Nat) (fun k=>[(1,.ptr H.nx 0),(4,.ptr (H.nx+1+1) 0),(40,.slice .any 5 (r.ents.map bc)),(41,.int .i64 (r.ents.length:Int)),(42,.int .i64 (k:Int))]) (fun k=>wrH HB (H.nx+1+1) (H.nx+1+1+1) (B0++(r.ents.take k).flatMap lc) (W0||(r.ents.take k).any (fun e=>!rgE e))) (fun k=>k≤r.ents.length) (fun k=>r.ents.length - k) 0 (by omega) ?_ fun k hk=>?_
 ·rw [yar,List.flatMap_nil,yaj,List.any_nil,Bool.or_false]
  refine ⟨by simp only [zkq,zkv,bC];omega,by repeat first|exact .refl _|refine .push ?_ _,hc0 _ _,?_,?_⟩
  ·simp [ltF,bC,znn,znf,bg dJ,hnB]
   try omega
  ·simp [cf,wk2,wk1,wkM,Fr.get]
 simp only [go_sem]
 have hlk:(B0++(r.ents.take k).flatMap lc).length≤206000:=by
  rw [lAq]
  have:=mu (r.ents.take k) fun x hx=>hr.eo x (List.mem_of_mem_take hx)
  rw [List.length_take] at this
  omega
 refine af (fun hc=>?_) (fun hc=>?_)
 ·have hk':k<r.ents.length:=by simp at hc;omega
  obtain ⟨x,hx⟩:∃ x,x=r.ents[k]:=⟨_,rfl⟩
  have hg:=bH (f:=bc) (l:=r.ents) (k:=k) (x:=x) (by rw [gQq hk',hx])
  have e5:=Yk5 k
  have hxm:x∈r.ents:=by rw [hx];exact gMq hk'
  have et:r.ents.take (k+1)=r.ents.take k++[x]:=by rw [hx,List.take_succ_eq_append_getElem hk']
  have eb:B0++(r.ents.take (k+1)).flatMap lc=B0++(r.ents.take k).flatMap lc++lc x:=by
   rw [et,List.flatMap_append,List.flatMap_cons,List.flatMap_nil,yaj,List.append_assoc]
  have ew:(W0||(r.ents.take (k+1)).any (fun e=>!rgE e))=(W0||(r.ents.take k).any (fun e=>!rgE e)||!rgE x):=by
   rw [et,List.any_append,List.any_cons,List.any_nil,Bool.or_false,Bool.or_assoc]
  generalize B0++(r.ents.take k).flatMap lc=Bk at *
  generalize (W0||(r.ents.take k).any (fun e=>!rgE e))=Wk at *
  have hWk:=hon Bk Wk (by omega)
  have hxo:=hr.eo x hxm
  simp only [go_sem,iNq,ybb,hg,bc,aN,bC,uB]
  (repeat with_reducible refine And.intro (by first|assumption|decide|omega) ?_)
  refine ⟨H.nx+1+1+1,Bk,Wk,x,⟨hWk.push _,rfl,hxo⟩,?_⟩
  rw [vu,show (if rgE x then eO x else [])=lc x from rfl,cN ?_ ?_]
  rotate_left
  ·exact hidB
  ·exact hqB
  rw [bP hWB.ne,← eb,← ew]
  simp only [go_sem,e5]
  refine ⟨k+1,by omega,by omega,by simp only [zle,bC];omega,by repeat first|exact .refl _|refine .push ?_ _,hc0 _ _,?_,?_⟩
  ·simp [ltF,bC,znn,znf,bg dJ,hnB]
   try omega
  ·simp [cf,wk2,wk1,wkM,Fr.get]
 have hk':k=r.ents.length:=by simp at hc;omega
 subst hk'
 rw [List.take_length]
 clear hc hk
 obtain ⟨B1,hB1⟩:∃ B1,B1=B0++r.ents.flatMap lc:=⟨_,rfl⟩
 obtain ⟨W1,hW1⟩:∃ W1,W1=(W0||r.ents.any fun e=>!rgE e):=⟨_,rfl⟩
 rw [← hB1,← hW1]
 have hl1:B1.length≤206000:=by
  rw [hB1,lAq]
  have:=mu r.ents hr.eo
  omega
 simp only [bk,bh,go_sem,byq,hcw,hcI,bC,cx,jM,fm,ybb]
 refine ⟨H.nx+1+1+1,B1,W1,hon _ _ (by first|omega|(simp only [lAq,kn,yaz,yba];omega)),?_⟩
 rw [bP hWB.ne]
 obtain ⟨B2,hB2⟩:∃ B2,B2=B1++aa (r.recs.length:Int) 2:=⟨_,rfl⟩
 obtain ⟨W2,hW2⟩:∃ W2,W2=(W1||!rg (r.recs.length:Int) 2):=⟨_,rfl⟩
 rw [← hB2,← hW2]
 have hl2:B2.length≤206010:=by rw [hB2,lAq];omega
 simp only [bk,bh,go_sem,byq,hcw,hcI,bC,cx,jM,fm,ybb]
 refine aK (A:=Nat) (fun k=>[(1,.ptr H.nx 0),(4,.ptr (H.nx+1+1) 0),(54,.slice .any 7 (r.recs.map dT)),(55,.int .i64 (r.recs.length:Int)),(56,.int .i64 (k:Int))]) (fun k=>wrH HB (H.nx+1+1) (H.nx+1+1+1) (B2++(r.recs.take k).flatMap fj) (W2||(r.recs.take k).any gt)) (fun k=>k≤r.recs.length) (fun k=>r.recs.length - k) 0 (by omega) ?_ fun k hk=>?_
 ·rw [yar,List.flatMap_nil,yaj,List.any_nil,Bool.or_false]
  refine ⟨by simp only [zkq,zkv,bC];omega,by repeat first|exact .refl _|refine .push ?_ _,hc0 _ _,?_,?_⟩
  ·simp [ltF,bC,znn,znf,bg qN,hnB]
   try omega
  ·simp [cf,wk2,wk1,wkM,Fr.get]
 simp only [go_sem]
 have hlk:(B2++(r.recs.take k).flatMap fj).length≤208000:=by
  rw [lAq]
  have:=j8 (r.recs.take k)
  rw [List.length_take] at this
  omega
 refine af (fun hc=>?_) (fun hc=>?_)
 ·have hk':k<r.recs.length:=by simp at hc;omega
  obtain ⟨x,hx⟩:∃ x,x=r.recs[k]:=⟨_,rfl⟩
  have hg:=bH (f:=dT) (l:=r.recs) (k:=k) (x:=x) (by rw [gQq hk',hx])
  have e5:=Yk5 k
  have hxm:x∈r.recs:=by rw [hx];exact gMq hk'
  have et:r.recs.take (k+1)=r.recs.take k++[x]:=by rw [hx,List.take_succ_eq_append_getElem hk']
  have eb:B2++(r.recs.take (k+1)).flatMap fj=B2++(r.recs.take k).flatMap fj++fj x:=by
   rw [et,List.flatMap_append,List.flatMap_cons,List.flatMap_nil,yaj,List.append_assoc]
  have ew:(W2||(r.recs.take (k+1)).any gt)=(W2||(r.recs.take k).any gt||gt x):=by
   rw [et,List.any_append,List.any_cons,List.any_nil,Bool.or_false,Bool.or_assoc]
  generalize B2++(r.recs.take k).flatMap fj=Bk at *
  generalize (W2||(r.recs.take k).any gt)=Wk at *
  have hWk:=hon Bk Wk (by omega)
  simp only [go_sem,iNq,ybb,hg,dT,mU,bC,Au]
  (repeat with_reducible refine And.intro (by first|assumption|decide|omega) ?_)
  refine ⟨H.nx+1+1+1,Bk,Wk,x,⟨hWk.push _,rfl,by omega⟩,?_⟩
  rw [cN ?_ ?_]
  rotate_left
  ·exact hidB
  ·exact hqB
  rw [bP hWB.ne,← eb,← ew]
  simp only [go_sem,e5]
  refine ⟨k+1,by omega,by omega,by simp only [zle,bC];omega,by repeat first|exact .refl _|refine .push ?_ _,hc0 _ _,?_,?_⟩
  ·simp [ltF,bC,znn,znf,bg qN,hnB]
   try omega
  ·simp [cf,wk2,wk1,wkM,Fr.get]
 have hk':k=r.recs.length:=by simp at hc;omega
 subst hk'
 rw [List.take_length]
 clear hc hk
 obtain ⟨B3,hB3⟩:∃ B3,B3=B2++r.recs.flatMap fj:=⟨_,rfl⟩
 obtain ⟨W3,hW3⟩:∃ W3,W3=(W2||r.recs.any gt):=⟨_,rfl⟩
 rw [← hB3,← hW3]
 have hl3:B3.length≤208000:=by
  rw [hB3,lAq]
  have:=j8 r.recs
  omega
 simp only [bk,bh,go_sem,byq,hcw,hcI,bC,cx,jM,fm,ybb]
 refine ⟨H.nx+1+1+1,B3,W3,hon _ _ (by first|omega|(simp only [lAq,kn,yaz,yba];omega)),?_⟩
 rw [bP hWB.ne]
 simp only [bk,bh,go_sem,byq,hcw,hcI,bC,cx,jM,fm,ybb]
 refine ⟨H.nx+1+1+1,B3++kn r.drop,W3,hon _ _ (by first|omega|(simp only [lAq,kn,yaz,yba];omega)),?_⟩
 rw [bP hWB.ne]
 simp only [bk,bh,go_sem,byq,hcw,hcI,bC,cx,jM,fm,ybb]
 refine ⟨H.nx+1+1+1,B3++kn r.drop++aa r.reas 1,W3||!rg r.reas 1,hon _ _ (by first|omega|(simp only [lAq,kn,yaz,yba];omega)),?_⟩
 rw [bP hWB.ne]
 simp only [bk,bh,go_sem,byq,hcw,hcI,bC,cx,jM,fm,ybb]
 refine ⟨H.nx+1+1+1,B3++kn r.drop++aa r.reas 1++aa r.port 2,W3||!rg r.reas 1||!rg r.port 2,r.data,⟨hon _ _ (by first|omega|(simp only [lAq,kn,yaz,yba];omega)),rfl⟩,?_⟩
 rw [bP hWB.ne]
 have hw:B3++kn r.drop++aa r.reas 1++aa r.port 2++ge r.data=jO r:=by
  rw [hB3,hB2,hB1,hB0];unfold jO yO;simp [List.append_assoc]
 have hb:(W3||!rg r.reas 1||!rg r.port 2)=yq r:=by
  rw [hW3,hW2,hW1,hW0];rfl
 rw [hw,hb]
 simp only [bk,bh,go_sem,byq,hcI]
 refine af (fun hb=>?_) (fun hb=>?_)
 ·rw [if_pos hb] at he0
  subst he0
  cases he
 ·rw [if_neg (by rw [hb];decide)] at he0
  subst he0
  simp only [go_sem,byq,hcI]
  exact ⟨by simp [wk,wk2,wk1,ak,wkM],mq hqB hnB (hlW _ _),gE hcl,by simp [zns,znu,znv,znf,zms,jy]⟩
end Go.AL
