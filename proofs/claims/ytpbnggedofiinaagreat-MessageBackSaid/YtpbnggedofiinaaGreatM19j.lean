/- Lemmas of the proof; no condition. -/
import Derived.Test.YtpbnggedofiinaaGreatM19g
set_option linter.all false
set_option maxRecDepth 10000
set_option maxHeartbeats 32000000
open List renaming length_nil → yba, length_cons → yaz, take_of_length_le → ybc, drop_append → ybd, take_append → ybe, drop_eq_nil_of_le → ybf, length_map → ybb, take_succ_cons → yaq, take_zero → yar, drop_succ_cons → yao, drop_zero → yap, nil_append → yak, cons_append → yal
open Go Go.AL Go.Proofs
namespace Go.AL
theorem qO {H:AHeap} {id q j:Nat} {b:List UInt8} {wr:Bool} (h1:j≠id) (h2:j≠q):ai (wrH H id q b wr) j=ai H j:=by
 unfold ai wrH
 rw [AHeap.get_set_ne _ _ h1,AHeap.get_set_ne _ _ h2]
theorem qU {r:SReq} (k:Int) (h:ROk r):(cd k r).length≤500000:=by
 have ln:=fun n w=>bW n w
 have lv:=cM h.el
 have lb:=iB r.data
 have lu:=mt r.ups h.uo
 have hu:=h.ul
 unfold cd
 repeat' split
 all_goals
  simp only [lAq,yba]
  have a1:=ln r.role 2
  have a2:=ln r.ups.length 2
  have a3:=ln r.table 2
  have a4:=ln r.frm 4
  have a5:=ln r.count 2
  have a6:=ln r.port 2
  omega
theorem bS {n:Nat} {l:List UInt8} {k:Int}:AV.lt n (.tup [.slice .any 1 (bys l),.int .i64 k]):=by
 simp only [zns,znu,znv,znf,zms,and_true,true_and]
 intro i e;cases e
def bI (r:SReq):List UInt8:=aa r.kind 1++cd r.kind r
def ig (r:SReq):List UInt8 × Int :=
 if gU r=false then ([],2) else if 32<r.ups.length∨320<r.data.length then ([],3) else if (!rg r.kind 1||eI r.kind r)=true then ([],4)
 else if 8000<(bI r).length then ([],3) else (bI r,0)
def sg:List AV→AHeap→(AV→Prop)→Prop
 |[.agg l],_,K=>∃ r:SReq,(l=aF r∧ROk r)∧K (.tup [.slice .any 1 (bys (ig r).1),.int .i64 (ig r).2])
 |_,_,_=>False
theorem E0:EntOk Tryz.prog 9 (Ent.pure sg):=by
 refine Ype fun _ H K h=>?_
 unfold sg at h
 split at h
 rotate_left
 ·exact h.elim
 rename_i l
 obtain ⟨r,⟨rfl,hr⟩,hK⟩:=h
 refine ⟨_,hK,?_⟩
 clear hK
 cases hp:gU r
 case false =>
  rw [show ig r=([],2) by unfold ig;rw [if_pos hp]]
  refine ACalls.fW ah (tCq lA (tCq ip (tCq cT (tCq tZ (tCq sF (tCq sQ (tCq uf (tCq t9 (tCq ui tNq))))))))) Tryz.func9 [.tmp 2,.tmp 3] (nrq _) (T:=ae [(7,[[],[],[],[],[],[],[0],[],[0,2,6,7]]),(6,[[1]])]) (h:=fun hcl hlt=>?_)
  clear hlt
  simp only [go_sem,aF,ky]
  refine ⟨r,⟨rfl,hr.rc⟩,?_⟩
  rw [hp]
  try simp only [go_sem]
  simp (disch:=first|exact Zd|omega) [↓zmo,beq,ybc,ybd,ybe,ag,wk,wk2,wk1,wkM,wkL,ak,ybf,hcl,zll]
  first|done|repeat first|exact .refl _|refine .push ?_ _
 by_cases h1:32<r.ups.length
 ·have d1:decide ((r.ups.length:Int) > 32)=true:=dtq (by omega)
  rw [show ig r=([],3) by unfold ig;rw [if_neg (by rw [hp];decide),if_pos (.inl h1)]]
  refine ACalls.fW ah (tCq lA (tCq ip (tCq cT (tCq tZ (tCq sF (tCq sQ (tCq uf (tCq t9 (tCq ui tNq))))))))) Tryz.func9 [.tmp 2,.tmp 3] (nrq _) (T:=ae [(7,[[],[],[],[],[],[],[0],[],[0,2,6,7]]),(6,[[1]])]) (h:=fun hcl hlt=>?_)
  clear hlt
  simp only [go_sem,aF,ky]
  refine ⟨r,⟨rfl,hr.rc⟩,?_⟩
  rw [hp]
  try simp only [go_sem,ybb,d1]
  simp (disch:=first|exact Zd|omega) [↓zmo,beq,ybc,ybd,ybe,ag,wk,wk2,wk1,wkM,wkL,ak,ybf,hcl,zll]
  first|done|repeat first|exact .refl _|refine .push ?_ _
 have d1:decide ((r.ups.length:Int) > 32)=false:=dfq (by omega)
 by_cases h2:320<r.data.length
 ·have d2:decide ((r.data.length:Int) > 320)=true:=dtq (by omega)
  rw [show ig r=([],3) by unfold ig;rw [if_neg (by rw [hp];decide),if_pos (.inr h2)]]
  refine ACalls.fW ah (tCq lA (tCq ip (tCq cT (tCq tZ (tCq sF (tCq sQ (tCq uf (tCq t9 (tCq ui tNq))))))))) Tryz.func9 [.tmp 2,.tmp 3] (nrq _) (T:=ae [(7,[[],[],[],[],[],[],[0],[],[0,2,6,7]]),(6,[[1]])]) (h:=fun hcl hlt=>?_)
  clear hlt
  simp only [go_sem,aF,ky]
  refine ⟨r,⟨rfl,hr.rc⟩,?_⟩
  rw [hp]
  try simp only [go_sem,byq,ybb,d1,d2]
  simp (disch:=first|exact Zd|omega) [↓zmo,beq,ybc,ybd,ybe,ag,wk,wk2,wk1,wkM,wkL,ak,ybf,hcl,zll]
  first|done|repeat first|exact .refl _|refine .push ?_ _
 have d2:decide ((r.data.length:Int) > 320)=false:=dfq (by omega)
 have hk12:1≤r.kind∧r.kind≤6:=by
  unfold gU at hp
  rw [Bool.and_eq_true,decide_eq_true_eq] at hp
  exact hp.1
 have hk:=eE hk12.1 hk12.2
 have he0:ig r=if (!rg r.kind 1||eI r.kind r)=true then ([],4) else if 8000<(bI r).length then ([],3) else (bI r,0):=by
  unfold ig;rw [if_neg (by rw [hp];decide),if_neg (by omega)]
 have hlb:=qU r.kind hr
 have hln:=bW r.kind 1
 have hlw:(bI r).length≤600000:=by unfold bI;rw [lAq];omega
 obtain ⟨RE,hRE⟩:∃ RE,ig r=RE:=⟨_,rfl⟩
 rw [hRE] at he0 ⊢
 refine ACalls.fW ah (tCq lA (tCq ip (tCq cT (tCq tZ (tCq sF (tCq sQ (tCq uf (tCq t9 (tCq ui tNq))))))))) Tryz.func9 [.tmp 2,.tmp 3] (nrq _) (T:=ae [(7,[[],[],[],[],[],[],[0],[],[0,2,6,7]]),(6,[[1]])]) (h:=fun hcl hlt=>?_)
 clear hlt
 simp only [go_sem,aF,ky]
 refine ⟨r,⟨rfl,hr.rc⟩,?_⟩
 rw [hp]
 try simp only [go_sem,byq,ybb,d1,d2]
 refine jq 4 0 1 (cs:=[AV.slice .nil 1 [],AV.bool false]) rfl (by simp only [go_sem]) rfl ?_
 obtain ⟨HB,hHB⟩:∃ HB,HB=(((H.push (.cells (aF r))).push (.buf 1 0)).push (.cells [.slice (.own (H.nx+1+1+1)) 1 [],.bool false])).push (.buf 1 0):=⟨_,rfl⟩
 have hnB:HB.nx=H.nx+1+1+1+1:=by rw [hHB];rfl
 have hWB:WOn HB (H.nx+1+1) (H.nx+1+1+1) [] false:=by
  rw [hHB]
  exact ⟨by simp [zlh,zle,zll],by simp [zlh,zle],by simp⟩
 have hcB:HB.Closed:=by
  have h1:=aP (i:=H.nx+1+1) (cs:=[.slice (.own (H.nx+1+1+1)) 1 [],.bool false]) (bj (a:=1) (b:=0) (aD (cs:=[]) (bj (a:=1) (b:=0) (aD (cs:=aF r) hcl (by have:=dN (n:=H.nx+1) r;simp only [bb,znr] at this;exact this))) trivial)) (by simp only [znu,znv,zng,and_true,zle];rw [lt_sliceL];exact ⟨fun id h=>(by cases h;omega),trivial⟩)
  simp only [go_sem] at h1
  rw [hHB];exact h1
 have hcr:ai HB H.nx=some (aF r):=by rw [hHB];simp only [go_sem,aF]
 have hle:H.Le HB:=by rw [hHB];repeat first|exact .refl _|refine .push ?_ _
 have hidB:=glq hWB.o
 have hqB:=glq hWB.bu
 have hc0:=fun b w=>(hWB.closed (b':=b) (wr':=w) hcB)
 have hcw:∀ b w,ai (wrH HB (H.nx+1+1) (H.nx+1+1+1) b w) H.nx=some (aF r):=fun b w=>by rw [qO (by omega) (by omega),hcr]
 have hcI:∀ b w,ai (wrH HB (H.nx+1+1) (H.nx+1+1+1) b w) (H.nx+1+1)=some [.slice (.own (H.nx+1+1+1)) 1 (bys b),.bool w]:=fun b w=>by
  unfold ai wrH
  rw [AHeap.get_set_same _ _ (by rw [zlf];exact hidB)]
 have hlW:∀ b w,H.Le (wrH HB (H.nx+1+1) (H.nx+1+1+1) b w):=fun b w=>by
  refine ⟨hle.nx,fun j x hj=>?_⟩
  have hj2:=glq hj
  unfold wrH
  rw [AHeap.get_set_ne _ _ (by omega),AHeap.get_set_ne _ _ (by omega)]
  exact hle.get _ _ hj
 have hcd:codL.length=6:=rfl
 have hl1:(aa r.kind 1).length≤1000:=by omega
 have hWK:WOn (wrH HB (H.nx+1+1) (H.nx+1+1+1) (aa r.kind 1) (!rg r.kind 1)) (H.nx+1+1) (H.nx+1+1+1) (aa r.kind 1) (!rg r.kind 1):=hWB.next (by omega)
 simp only [aF] at hHB hcr hcw
 simp only [bk,bh,bhq,Nat.reduceMod,Nat.reduceDiv,aA,az,aB,aZ,aC,aY,aS,aU,aV,yaq,yar,yao,yap,go_sem,byq,List.set_cons_zero,← hHB,aF,cx,hcr]
 refine ⟨H.nx+1+1+1,[],false,hWB,?_⟩
 simp only [yak,Bool.false_or]
 clear hHB
 obtain ⟨rw1,hrw1⟩:∃ w,bI r=w:=⟨_,rfl⟩
 rcases hk with hk|hk|hk|hk|hk|hk
 ·have hw:IntKind.i64.wrap (r.kind - 1)=0:=by rw [hk];decide
  have hg:codL.getD 0 .junk=.agg [.func (.func 113) [] [],.func (.func 114) [] [],.func (.func 116) [] []]:=rfl
  have et:((0:Int)).toNat=0:=rfl
  have hwr:aa r.kind 1++cd 1 r=bI r:=by unfold bI;rw [hk]
  have hbd:eI 1 r=eI r.kind r:=by rw [hk]
  simp only [go_sem,byq,hcw,aW,hw,hcd,et,hg,BP]
  refine ⟨by omega,H.nx+1+1+1,_,_,r,⟨hWK,rfl,hr,hl1⟩,?_⟩
  rw [bP hWB.ne,hwr,hbd]
  simp only [go_sem,byq,hcI]
  refine af (fun hb=>?_) (fun hb=>?_)
  ·rw [if_pos hb] at he0
   subst he0
   simp only [go_sem,byq,hcI]
   refine ⟨⟨.inl ⟨.inl rfl,rfl,rfl⟩,rfl,trivial⟩,by repeat (first|exact hlW _ _|refine lPq ?_ _),hcl,?_⟩
   first|exact bS|exact bS (l:=[])
  ·rw [if_neg (by rw [hb];decide)] at he0
   simp only [go_sem,byq,hcI]
   refine af (fun hb2=>?_) (fun hb2=>?_)
   ·have hb3:8000<(bI r).length:=by simp at hb2;omega
    rw [if_pos hb3] at he0
    subst he0
    simp only [go_sem,byq,hcI]
    refine ⟨⟨.inl ⟨.inl rfl,rfl,rfl⟩,rfl,trivial⟩,by repeat (first|exact hlW _ _|refine lPq ?_ _),hcl,?_⟩
    first|exact bS|exact bS (l:=[])
   ·have hb3:¬ 8000<(bI r).length:=by simp at hb2;omega
    rw [if_neg hb3] at he0
    subst he0
    simp only [go_sem,byq,hcI]
    refine ⟨⟨.inl ⟨.inl rfl,rfl,rfl⟩,rfl,trivial⟩,by repeat (first|exact hlW _ _|refine lPq ?_ _),hcl,?_⟩
    first|exact bS|exact bS (l:=[])
 skip
 ·have hw:IntKind.i64.wrap (r.kind - 1)=1:=by rw [hk];decide
  have hg:codL.getD 1 .junk=.agg [.func (.func 118) [] [],.func (.func 119) [] [],.func (.func 120) [] []]:=rfl
  have et:((1:Int)).toNat=1:=rfl
  have hwr:aa r.kind 1++cd 2 r=bI r:=by unfold bI;rw [hk]
  have hbd:eI 2 r=eI r.kind r:=by rw [hk]
  simp only [go_sem,byq,hcw,aW,hw,hcd,et,hg,Bc]
  refine ⟨by omega,H.nx+1+1+1,_,_,r,⟨hWK,rfl,hr,hl1⟩,?_⟩
  rw [bP hWB.ne,hwr,hbd]
  simp only [go_sem,byq,hcI]
  refine af (fun hb=>?_) (fun hb=>?_)
  ·rw [if_pos hb] at he0
   subst he0
   simp only [go_sem,byq,hcI]
   refine ⟨⟨.inl ⟨.inl rfl,rfl,rfl⟩,rfl,trivial⟩,by repeat (first|exact hlW _ _|refine lPq ?_ _),hcl,?_⟩
   first|exact bS|exact bS (l:=[])
  ·rw [if_neg (by rw [hb];decide)] at he0
   simp only [go_sem,byq,hcI]
   refine af (fun hb2=>?_) (fun hb2=>?_)
   ·have hb3:8000<(bI r).length:=by simp at hb2;omega
    rw [if_pos hb3] at he0
    subst he0
    simp only [go_sem,byq,hcI]
    refine ⟨⟨.inl ⟨.inl rfl,rfl,rfl⟩,rfl,trivial⟩,by repeat (first|exact hlW _ _|refine lPq ?_ _),hcl,?_⟩
    first|exact bS|exact bS (l:=[])
   ·have hb3:¬ 8000<(bI r).length:=by simp at hb2;omega
    rw [if_neg hb3] at he0
    subst he0
    simp only [go_sem,byq,hcI]
    refine ⟨⟨.inl ⟨.inl rfl,rfl,rfl⟩,rfl,trivial⟩,by repeat (first|exact hlW _ _|refine lPq ?_ _),hcl,?_⟩
    first|exact bS|exact bS (l:=[])
 skip
 ·have hw:IntKind.i64.wrap (r.kind - 1)=2:=by rw [hk];decide
  have hg:codL.getD 2 .junk=.agg [.func (.func 121) [] [],.func (.func 122) [] [],.func (.func 123) [] []]:=rfl
  have et:((2:Int)).toNat=2:=rfl
  have hwr:aa r.kind 1++cd 3 r=bI r:=by unfold bI;rw [hk]
  have hbd:eI 3 r=eI r.kind r:=by rw [hk]
  simp only [go_sem,byq,hcw,aW,hw,hcd,et,hg,A1]
  refine ⟨by omega,H.nx+1+1+1,_,_,r,⟨hWK,rfl,hr,hl1⟩,?_⟩
  rw [bP hWB.ne,hwr,hbd]
  simp only [go_sem,byq,hcI]
  refine af (fun hb=>?_) (fun hb=>?_)
  ·rw [if_pos hb] at he0
   subst he0
   simp only [go_sem,byq,hcI]
   refine ⟨⟨.inl ⟨.inl rfl,rfl,rfl⟩,rfl,trivial⟩,by repeat (first|exact hlW _ _|refine lPq ?_ _),hcl,?_⟩
   first|exact bS|exact bS (l:=[])
  ·rw [if_neg (by rw [hb];decide)] at he0
   simp only [go_sem,byq,hcI]
   refine af (fun hb2=>?_) (fun hb2=>?_)
   ·have hb3:8000<(bI r).length:=by simp at hb2;omega
    rw [if_pos hb3] at he0
    subst he0
    simp only [go_sem,byq,hcI]
    refine ⟨⟨.inl ⟨.inl rfl,rfl,rfl⟩,rfl,trivial⟩,by repeat (first|exact hlW _ _|refine lPq ?_ _),hcl,?_⟩
    first|exact bS|exact bS (l:=[])
   ·have hb3:¬ 8000<(bI r).length:=by simp at hb2;omega
    rw [if_neg hb3] at he0
    subst he0
    simp only [go_sem,byq,hcI]
    refine ⟨⟨.inl ⟨.inl rfl,rfl,rfl⟩,rfl,trivial⟩,by repeat (first|exact hlW _ _|refine lPq ?_ _),hcl,?_⟩
    first|exact bS|exact bS (l:=[])
 skip
 ·have hw:IntKind.i64.wrap (r.kind - 1)=3:=by rw [hk];decide
  have hg:codL.getD 3 .junk=.agg [.func (.func 125) [] [],.func (.func 126) [] [],.func (.func 127) [] []]:=rfl
  have et:((3:Int)).toNat=3:=rfl
  have hwr:aa r.kind 1++cd 4 r=bI r:=by unfold bI;rw [hk]
  have hbd:eI 4 r=eI r.kind r:=by rw [hk]
  simp only [go_sem,byq,hcw,aW,hw,hcd,et,hg,Bu]
  refine ⟨by omega,H.nx+1+1+1,_,_,r,⟨hWK,rfl,hr,hl1⟩,?_⟩
  rw [bP hWB.ne,hwr,hbd]
  simp only [go_sem,byq,hcI]
  refine af (fun hb=>?_) (fun hb=>?_)
  ·rw [if_pos hb] at he0
   subst he0
   simp only [go_sem,byq,hcI]
   refine ⟨⟨.inl ⟨.inl rfl,rfl,rfl⟩,rfl,trivial⟩,by repeat (first|exact hlW _ _|refine lPq ?_ _),hcl,?_⟩
   first|exact bS|exact bS (l:=[])
  ·rw [if_neg (by rw [hb];decide)] at he0
   simp only [go_sem,byq,hcI]
   refine af (fun hb2=>?_) (fun hb2=>?_)
   ·have hb3:8000<(bI r).length:=by simp at hb2;omega
    rw [if_pos hb3] at he0
    subst he0
    simp only [go_sem,byq,hcI]
    refine ⟨⟨.inl ⟨.inl rfl,rfl,rfl⟩,rfl,trivial⟩,by repeat (first|exact hlW _ _|refine lPq ?_ _),hcl,?_⟩
    first|exact bS|exact bS (l:=[])
   ·have hb3:¬ 8000<(bI r).length:=by simp at hb2;omega
    rw [if_neg hb3] at he0
    subst he0
    simp only [go_sem,byq,hcI]
    refine ⟨⟨.inl ⟨.inl rfl,rfl,rfl⟩,rfl,trivial⟩,by repeat (first|exact hlW _ _|refine lPq ?_ _),hcl,?_⟩
    first|exact bS|exact bS (l:=[])
 skip
 ·have hw:IntKind.i64.wrap (r.kind - 1)=4:=by rw [hk];decide
  have hg:codL.getD 4 .junk=.agg [.func (.func 128) [] [],.func (.func 129) [] [],.func (.func 130) [] []]:=rfl
  have et:((4:Int)).toNat=4:=rfl
  have hwr:aa r.kind 1++cd 5 r=bI r:=by unfold bI;rw [hk]
  have hbd:eI 5 r=eI r.kind r:=by rw [hk]
  simp only [go_sem,byq,hcw,aW,hw,hcd,et,hg,Bs]
  refine ⟨by omega,H.nx+1+1+1,_,_,r,⟨hWK,rfl,hr,hl1⟩,?_⟩
  rw [bP hWB.ne,hwr,hbd]
  simp only [go_sem,byq,hcI]
  refine af (fun hb=>?_) (fun hb=>?_)
  ·rw [if_pos hb] at he0
   subst he0
   simp only [go_sem,byq,hcI]
   refine ⟨⟨.inl ⟨.inl rfl,rfl,rfl⟩,rfl,trivial⟩,by repeat (first|exact hlW _ _|refine lPq ?_ _),hcl,?_⟩
   first|exact bS|exact bS (l:=[])
  ·rw [if_neg (by rw [hb];decide)] at he0
   simp only [go_sem,byq,hcI]
   refine af (fun hb2=>?_) (fun hb2=>?_)
   ·have hb3:8000<(bI r).length:=by simp at hb2;omega
    rw [if_pos hb3] at he0
    subst he0
    simp only [go_sem,byq,hcI]
    refine ⟨⟨.inl ⟨.inl rfl,rfl,rfl⟩,rfl,trivial⟩,by repeat (first|exact hlW _ _|refine lPq ?_ _),hcl,?_⟩
    first|exact bS|exact bS (l:=[])
   ·have hb3:¬ 8000<(bI r).length:=by simp at hb2;omega
    rw [if_neg hb3] at he0
    subst he0
    simp only [go_sem,byq,hcI]
    refine ⟨⟨.inl ⟨.inl rfl,rfl,rfl⟩,rfl,trivial⟩,by repeat (first|exact hlW _ _|refine lPq ?_ _),hcl,?_⟩
    first|exact bS|exact bS (l:=[])
 skip
 ·have hw:IntKind.i64.wrap (r.kind - 1)=5:=by rw [hk];decide
  have hg:codL.getD 5 .junk=.agg [.func (.func 131) [] [],.func (.func 132) [] [],.func (.func 133) [] []]:=rfl
  have et:((5:Int)).toNat=5:=rfl
  have hwr:aa r.kind 1++cd 6 r=bI r:=by unfold bI;rw [hk]
  have hbd:eI 6 r=eI r.kind r:=by rw [hk]
  simp only [go_sem,byq,hcw,aW,hw,hcd,et,hg,Bq]
  refine ⟨by omega,H.nx+1+1+1,_,_,r,⟨hWK,rfl,hr,hl1⟩,?_⟩
  rw [bP hWB.ne,hwr,hbd]
  simp only [go_sem,byq,hcI]
  refine af (fun hb=>?_) (fun hb=>?_)
  ·rw [if_pos hb] at he0
   subst he0
   simp only [go_sem,byq,hcI]
   refine ⟨⟨.inl ⟨.inl rfl,rfl,rfl⟩,rfl,trivial⟩,by repeat (first|exact hlW _ _|refine lPq ?_ _),hcl,?_⟩
   first|exact bS|exact bS (l:=[])
  ·rw [if_neg (by rw [hb];decide)] at he0
   simp only [go_sem,byq,hcI]
   refine af (fun hb2=>?_) (fun hb2=>?_)
   ·have hb3:8000<(bI r).length:=by simp at hb2;omega
    rw [if_pos hb3] at he0
    subst he0
    simp only [go_sem,byq,hcI]
    refine ⟨⟨.inl ⟨.inl rfl,rfl,rfl⟩,rfl,trivial⟩,by repeat (first|exact hlW _ _|refine lPq ?_ _),hcl,?_⟩
    first|exact bS|exact bS (l:=[])
   ·have hb3:¬ 8000<(bI r).length:=by simp at hb2;omega
    rw [if_neg hb3] at he0
    subst he0
    simp only [go_sem,byq,hcI]
    refine ⟨⟨.inl ⟨.inl rfl,rfl,rfl⟩,rfl,trivial⟩,by repeat (first|exact hlW _ _|refine lPq ?_ _),hcl,?_⟩
    first|exact bS|exact bS (l:=[])
def yK:List AV→AHeap→(AV→Prop)→Prop
 |[.agg l,.agg k],_,K=>∃ r s:SReq,(l=aF r∧k=aF s∧RC r∧RC s)∧K (.bool (eqR r s))
 |_,_,_=>False
theorem BX:EntOk Tryz.prog 13 (Ent.pure yK):=by
 refine Ype fun _ H K h=>?_
 unfold yK at h
 split at h
 rotate_left
 ·exact h.elim
 rename_i l k
 obtain ⟨r,s,⟨rfl,rfl,hr,hs⟩,hK⟩:=h
 refine ⟨_,hK,?_⟩
 clear hK
 obtain ⟨R,hR⟩:∃ R,eqR r s=R:=⟨_,rfl⟩
 rw [hR]
 unfold eqR at hR
 have hul:=hr.ul
 have hul2:=hs.ul
 cases h0:(r.kind==s.kind)
 ·simp only [h0,Bool.false_and,Bool.and_false,Bool.true_and] at hR
  subst hR
  have n0:(r.kind != s.kind)=true:=by unfold bne;rw [h0];rfl
  refine ACalls.fW ah (tCq ej tNq) Tryz.func13 [.tmp 4] (nrq _) (T:=ae [(6,[[],[],[],[],[],[],[],[],[],[],[],[],[],[],[],[],[],[],[1,3,7,11,13,17]])]) (h:=fun hcl hlt=>?_)
  clear hlt
  simp only [List.append_eq,yal,yak]
  simp only [go_sem,byq,aF,cH,bT,bD,bB,Bool.bne_false,Bool.bne_true,ybb,n0]
  simp (disch:=first|exact Zd|omega) [↓zmo,beq,ybc,ybd,ybe,ag,wk,wk2,wk1,wkM,wkL,ak,ybf,hcl]
  first|done|repeat first|exact .refl _|refine .push ?_ _
 have n0:(r.kind != s.kind)=false:=by unfold bne;rw [h0];rfl
 cases h1:(r.role==s.role)
 ·simp only [h0,h1,Bool.false_and,Bool.and_false,Bool.true_and] at hR
  subst hR
  have n1:(r.role != s.role)=true:=by unfold bne;rw [h1];rfl
  refine ACalls.fW ah (tCq ej tNq) Tryz.func13 [.tmp 4] (nrq _) (T:=ae [(6,[[],[],[],[],[],[],[],[],[],[],[],[],[],[],[],[],[],[],[1,3,7,11,13,17]])]) (h:=fun hcl hlt=>?_)
  clear hlt
  simp only [List.append_eq,yal,yak]
  simp only [go_sem,byq,aF,cH,bT,bD,bB,Bool.bne_false,Bool.bne_true,ybb,n0,n1]
  simp (disch:=first|exact Zd|omega) [↓zmo,beq,ybc,ybd,ybe,ag,wk,wk2,wk1,wkM,wkL,ak,ybf,hcl]
  first|done|repeat first|exact .refl _|refine .push ?_ _
 have n1:(r.role != s.role)=false:=by unfold bne;rw [h1];rfl
 cases h2:(decide (r.el=s.el))
 ·simp only [h0,h1,h2,Bool.false_and,Bool.and_false,Bool.true_and] at hR
  subst hR
  refine ACalls.fW ah (tCq ej tNq) Tryz.func13 [.tmp 4] (nrq _) (T:=ae [(6,[[],[],[],[],[],[],[],[],[],[],[],[],[],[],[],[],[],[],[1,3,7,11,13,17]])]) (h:=fun hcl hlt=>?_)
  clear hlt
  simp only [List.append_eq,yal,yak]
  simp only [go_sem,byq,aF,cH,bT,bD,bB,Bool.bne_false,Bool.bne_true,ybb,n0,n1,h2]
  simp (disch:=first|exact Zd|omega) [↓zmo,beq,ybc,ybd,ybe,ag,wk,wk2,wk1,wkM,wkL,ak,ybf,hcl]
  first|done|repeat first|exact .refl _|refine .push ?_ _
 cases h3:(r.table==s.table)
 ·simp only [h0,h1,h2,h3,Bool.false_and,Bool.and_false,Bool.true_and] at hR
  subst hR
  have n3:(r.table != s.table)=true:=by unfold bne;rw [h3];rfl
  refine ACalls.fW ah (tCq ej tNq) Tryz.func13 [.tmp 4] (nrq _) (T:=ae [(6,[[],[],[],[],[],[],[],[],[],[],[],[],[],[],[],[],[],[],[1,3,7,11,13,17]])]) (h:=fun hcl hlt=>?_)
  clear hlt
  simp only [List.append_eq,yal,yak]
  simp only [go_sem,byq,aF,cH,bT,bD,bB,Bool.bne_false,Bool.bne_true,ybb,n0,n1,h2,n3]
  simp (disch:=first|exact Zd|omega) [↓zmo,beq,ybc,ybd,ybe,ag,wk,wk2,wk1,wkM,wkL,ak,ybf,hcl]
  first|done|repeat first|exact .refl _|refine .push ?_ _
 have n3:(r.table != s.table)=false:=by unfold bne;rw [h3];rfl
 cases h4:(r.frm==s.frm)
 ·simp only [h0,h1,h2,h3,h4,Bool.false_and,Bool.and_false,Bool.true_and] at hR
  subst hR
  have n4:(r.frm != s.frm)=true:=by unfold bne;rw [h4];rfl
  refine ACalls.fW ah (tCq ej tNq) Tryz.func13 [.tmp 4] (nrq _) (T:=ae [(6,[[],[],[],[],[],[],[],[],[],[],[],[],[],[],[],[],[],[],[1,3,7,11,13,17]])]) (h:=fun hcl hlt=>?_)
  clear hlt
  simp only [List.append_eq,yal,yak]
  simp only [go_sem,byq,aF,cH,bT,bD,bB,Bool.bne_false,Bool.bne_true,ybb,n0,n1,h2,n3,n4]
  simp (disch:=first|exact Zd|omega) [↓zmo,beq,ybc,ybd,ybe,ag,wk,wk2,wk1,wkM,wkL,ak,ybf,hcl]
  first|done|repeat first|exact .refl _|refine .push ?_ _
 have n4:(r.frm != s.frm)=false:=by unfold bne;rw [h4];rfl
 cases h5:(r.count==s.count)
 ·simp only [h0,h1,h2,h3,h4,h5,Bool.false_and,Bool.and_false,Bool.true_and] at hR
  subst hR
  have n5:(r.count != s.count)=true:=by unfold bne;rw [h5];rfl
  refine ACalls.fW ah (tCq ej tNq) Tryz.func13 [.tmp 4] (nrq _) (T:=ae [(6,[[],[],[],[],[],[],[],[],[],[],[],[],[],[],[],[],[],[],[1,3,7,11,13,17]])]) (h:=fun hcl hlt=>?_)
  clear hlt
  simp only [List.append_eq,yal,yak]
  simp only [go_sem,byq,aF,cH,bT,bD,bB,Bool.bne_false,Bool.bne_true,ybb,n0,n1,h2,n3,n4,n5]
  simp (disch:=first|exact Zd|omega) [↓zmo,beq,ybc,ybd,ybe,ag,wk,wk2,wk1,wkM,wkL,ak,ybf,hcl]
  first|done|repeat first|exact .refl _|refine .push ?_ _
 have n5:(r.count != s.count)=false:=by unfold bne;rw [h5];rfl
 cases h6:(r.port==s.port)
 ·simp only [h0,h1,h2,h3,h4,h5,h6,Bool.false_and,Bool.and_false,Bool.true_and] at hR
  subst hR
  have n6:(r.port != s.port)=true:=by unfold bne;rw [h6];rfl
  refine ACalls.fW ah (tCq ej tNq) Tryz.func13 [.tmp 4] (nrq _) (T:=ae [(6,[[],[],[],[],[],[],[],[],[],[],[],[],[],[],[],[],[],[],[1,3,7,11,13,17]])]) (h:=fun hcl hlt=>?_)
  clear hlt
  simp only [List.append_eq,yal,yak]
  simp only [go_sem,byq,aF,cH,bT,bD,bB,Bool.bne_false,Bool.bne_true,ybb,n0,n1,h2,n3,n4,n5,n6]
  simp (disch:=first|exact Zd|omega) [↓zmo,beq,ybc,ybd,ybe,ag,wk,wk2,wk1,wkM,wkL,ak,ybf,hcl]
  first|done|repeat first|exact .refl _|refine .push ?_ _
 have n6:(r.port != s.port)=false:=by unfold bne;rw [h6];rfl
 cases h7:(r.data==s.data)
 ·simp only [h0,h1,h2,h3,h4,h5,h6,h7,Bool.false_and,Bool.and_false,Bool.true_and] at hR
  subst hR
  refine ACalls.fW ah (tCq ej tNq) Tryz.func13 [.tmp 4] (nrq _) (T:=ae [(6,[[],[],[],[],[],[],[],[],[],[],[],[],[],[],[],[],[],[],[1,3,7,11,13,17]])]) (h:=fun hcl hlt=>?_)
  clear hlt
  simp only [List.append_eq,yal,yak]
  simp only [go_sem,byq,aF,cH,bT,bD,bB,Bool.bne_false,Bool.bne_true,ybb,n0,n1,h2,n3,n4,n5,n6,h7]
  simp (disch:=first|exact Zd|omega) [↓zmo,beq,ybc,ybd,ybe,ag,wk,wk2,wk1,wkM,wkL,ak,ybf,hcl]
  first|done|repeat first|exact .refl _|refine .push ?_ _
 simp only [h0,h1,h2,h3,h4,h5,h6,h7,Bool.true_and,Bool.and_true] at hR
 by_cases hlen:r.ups.length=s.ups.length
 case neg =>
  rw [mG hlen] at hR
  subst hR
  have n8:((r.ups.length:Int) != (s.ups.length:Int))=true:=by rw [bne_iff_ne];omega
  refine ACalls.fW ah (tCq ej tNq) Tryz.func13 [.tmp 4] (nrq _) (T:=ae [(6,[[],[],[],[],[],[],[],[],[],[],[],[],[],[],[],[],[],[],[1,3,7,11,13,17]])]) (h:=fun hcl hlt=>?_)
  clear hlt
  simp only [List.append_eq,yal,yak]
  simp only [go_sem,byq,aF,cH,bT,bD,bB,Bool.bne_false,Bool.bne_true,ybb,n0,n1,h2,n3,n4,n5,n6,h7,n8]
  simp (disch:=first|exact Zd|omega) [↓zmo,beq,ybc,ybd,ybe,ag,wk,wk2,wk1,wkM,wkL,ak,ybf,hcl]
  first|done|repeat first|exact .refl _|refine .push ?_ _
 have n8:((r.ups.length:Int) != (s.ups.length:Int))=false:=by rw [hlen];simp
 refine ACalls.fW ah (tCq ej tNq) Tryz.func13 [.tmp 4] (nrq _) (T:=ae [(6,[[],[],[],[],[],[],[],[],[],[],[],[],[],[],[],[],[],[],[1,3,7,11,13,17]])]) (h:=fun hcl hlt=>?_)
 clear hlt
 simp only [List.append_eq,yal,yak]
 simp only [go_sem,byq,aF,cH,bT,bD,bB,Bool.bne_false,Bool.bne_true,ybb,n0,n1,h2,n3,n4,n5,n6,h7,n8]
 obtain ⟨HL,hHL⟩:∃ HL,HL=(H.push (.cells (aF r))).push (.cells (aF s)):=⟨_,rfl⟩
 have hcB:HL.Closed:=by
  rw [hHL]
  refine aD (aD hcl ?_) ?_
  ·have:=dN (n:=H.nx+1) r;simp only [bb,znr] at this;exact this
  ·have:=dN (n:=H.nx+1+1) s;simp only [bb,znr] at this;exact this
 refine aK (A:=Nat) (fun k=>[(3,.ptr (H.nx+1) 0),(73,.slice .any 6 (r.ups.map cV)),(74,.int .i64 (r.ups.length:Int)),(75,.int .i64 (k:Int))]) (fun _=>HL) (fun k=>k≤r.ups.length∧eqL eqU (r.ups.drop k) (s.ups.drop k)=R) (fun k=>r.ups.length - k) 0 ⟨by omega,hR⟩ ?_ fun k hk=>?_
 ·rw [hHL]
  refine ⟨by simp only [zkq,zkv,zle];omega,lRq _,by rw [← hHL];exact hcB,?_,?_⟩
  ·simp [ltF,znf,znn,zle,bg kq]
  ·simp [cf,wk2,wk1,wkM,Fr.get]
 obtain ⟨hk,hq⟩:=hk
 simp only [go_sem]
 refine af (fun hc=>?_) (fun hc=>?_)
 ·have hk':k<r.ups.length:=by simp at hc;omega
  have hk2:k<s.ups.length:=by omega
  obtain ⟨x,hx⟩:∃ x,x=r.ups[k]:=⟨_,rfl⟩
  obtain ⟨y,hy⟩:∃ y,y=s.ups[k]:=⟨_,rfl⟩
  have hd:r.ups.drop k=x::r.ups.drop (k+1):=by rw [hx];exact dcq hk'
  have hd2:s.ups.drop k=y::s.ups.drop (k+1):=by rw [hy];exact dcq hk2
  have hg:=bH (f:=cV) (l:=r.ups) (k:=k) (x:=x) (by rw [gQq hk',hx])
  have hg2:=bH (f:=cV) (l:=s.ups) (k:=k) (x:=y) (by rw [gQq hk2,hy])
  have e5:=Yk5 k
  have hox:=hr.uo x (by rw [hx];exact gMq hk')
  have hoy:=hs.uo y (by rw [hy];exact gMq hk2)
  rw [hd,hd2] at hq
  unfold eqL at hq
  obtain ⟨a,e⟩:=x
  obtain ⟨b,f⟩:=y
  dsimp only at hox hoy
  have hab2:(k:Int)<(s.ups.length:Int):=by omega
  have eu:eqU (a,e) (b,f)=((a==b)&&eqE e f):=rfl
  rw [eu] at hq
  rw [hHL]
  cases hab:(a==b)
  ·have nab:(a != b)=true:=by unfold bne;rw [hab];rfl
   simp only [hab,Bool.false_and] at hq
   subst hq
   simp only [go_sem,iNq,ybb,aF,hg,hg2,cV,kB,aN,nab]
   (repeat with_reducible refine And.intro (by first|assumption|decide|omega) ?_)
   simp (disch:=first|exact Zd|omega) [↓zmo,beq,ybc,ybd,ybe,ag,wk,wk2,wk1,wkM,wkL,ak,ybf,hcl]
   first|done|repeat first|exact .refl _|refine .push ?_ _
  ·have nab:(a != b)=false:=by unfold bne;rw [hab];rfl
   simp only [hab,Bool.true_and] at hq
   simp only [go_sem,iNq,ybb,aF,hg,hg2,cV,kB,aN,nab,oa]
   (repeat with_reducible refine And.intro (by first|assumption|decide|omega) ?_)
   refine ⟨e,f,⟨rfl,rfl,hox,hoy⟩,?_⟩
   rw [show (xg e f==0)=eqE e f from rfl]
   try simp only [go_sem]
   refine af (fun hb=>?_) (fun hb=>?_)
   ·have hb':eqE e f=false:=by simpa using hb
    simp only [hb',Bool.false_and] at hq
    subst hq
    try simp only [go_sem]
    simp (disch:=first|exact Zd|omega) [↓zmo,beq,ybc,ybd,ybe,ag,wk,wk2,wk1,wkM,wkL,ak,ybf,hcl]
    first|done|repeat first|exact .refl _|refine .push ?_ _
   ·have hb':eqE e f=true:=by simpa using hb
    simp only [hb',Bool.true_and] at hq
    simp only [go_sem,e5]
    refine ⟨k+1,⟨by omega,hq⟩,by omega,by (try simp only [zle]);omega,by (try simp only [aF]);repeat first|exact .refl _|refine .push ?_ _,by rw [hHL] at hcB;exact hcB,?_,?_⟩
    ·simp [ltF,znf,znn,zle,bg kq]
    ·simp [cf,wk2,wk1,wkM,Fr.get]
 ·have hk':k=r.ups.length:=by simp at hc;omega
  subst hk'
  rw [List.drop_length,hlen,List.drop_length] at hq
  rw [← hq,hHL]
  simp only [go_sem,eqL,aF]
  simp (disch:=first|exact Zd|omega) [↓zmo,beq,ybc,ybd,ybe,ag,wk,wk2,wk1,wkM,wkL,ak,ybf,hcl]
  first|done|repeat first|exact .refl _|refine .push ?_ _
def Av (r:SReq):Bool:=decide (1≤r.kind∧r.kind≤6)
end Go.AL
