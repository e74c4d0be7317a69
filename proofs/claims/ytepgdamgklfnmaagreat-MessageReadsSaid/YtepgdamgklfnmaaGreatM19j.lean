/- Contracts and plain laws, a part of the proof; no condition of its own. -/
import Derived.Test.YtepgdamgklfnmaaGreatM19g
open List renaming length_nil → yba, length_cons → yaz, take_of_length_le → ybc, drop_append → ybd, take_append → ybe, drop_eq_nil_of_le → ybf, length_map → ybb, take_succ_cons → yaq, take_zero → yar, drop_succ_cons → yao, drop_zero → yap, nil_append → yak, cons_append → yal, map_nil → yaf
open Go Go.AL Go.Proofs
namespace Go.AL
set_option linter.all false
set_option maxRecDepth 10000

theorem wrH_cells {H:AHeap} {id q j:Nat} {b:List UInt8} {wr:Bool} (h1:j≠id) (h2:j≠q):cellsOf? (wrH H id q b wr) j=cellsOf? H j:=by
  unfold cellsOf? wrH
  rw [AHeap.get_set_ne _ _ h1,AHeap.get_set_ne _ _ h2]
theorem bodyR_len {r:SReq} (k:Int) (h:ROk r):(bodyR k r).length≤500000:=by
  have ln:=fun n w=>wUint_len n w
  have lv:=wValue_len h.el
  have lb:=wBytes_len r.data
  have lu:=bodyUs_len r.ups h.uo
  have hu:=h.ul
  unfold bodyR
  repeat' split
  all_goals
    simp only [List.length_append,yba]
    have a1:=ln r.role 2
    have a2:=ln r.ups.length 2
    have a3:=ln r.table 2
    have a4:=ln r.frm 4
    have a5:=ln r.count 2
    have a6:=ln r.port 2
    omega
theorem lt_resB {n:Nat} {l:List UInt8} {k:Int}:AV.lt n (.tup [.slice .any 1 (bys l),.int .i64 k]):=by
  simp only [zna,znc,znd,zmn,zma,and_true,true_and]
  intro i e;cases e
def wireR (r:SReq):List UInt8:=wUint r.kind 1++bodyR r.kind r
/-- the encoding of a request, and the error -/
def encR (r:SReq):List UInt8 × Int :=
  if permR r=false then ([],2) else if 32<r.ups.length∨320<r.data.length then ([],3) else if (!rg r.kind 1||badR r.kind r)=true then ([],4)
  else if 8000<(wireR r).length then ([],3) else (wireR r,0)
def p_mEncR:List AV→AHeap→(AV→Prop)→Prop
  | [.agg l],_,K=>∃ r:SReq,(l=reqC r∧ROk r)∧K (.tup [.slice .any 1 (bys (encR r).1),.int .i64 (encR r).2])
  | _,_,_=>False
set_option maxHeartbeats 8000000 in
theorem ok_mEncR:EntOk Tryz.prog 15 (Ent.pure p_mEncR):=by
  refine EntOk.pure fun args H K h=>?_
  unfold p_mEncR at h
  split at h
  rotate_left
  · exact h.elim
  rename_i l
  obtain ⟨r,⟨rfl,hr⟩,hK⟩:=h
  refine ⟨_,hK,?_⟩
  clear hK
  cases hp:permR r
  case false =>
    rw [show encR r=([],2) by unfold encR;rw [if_pos hp]]
    refine ACalls.of_aw (Ω:=[(37,Ent.pure p_permit),(38,Ent.effect e_wNum),(39,Ent.pure p_codecs),(91,Ent.effect e_wr1),(96,Ent.effect e_wr2),(99,Ent.effect e_wr3),(103,Ent.effect e_wr4),(106,Ent.effect e_wr5),(109,Ent.effect e_wr6)]) (T:=assoc [(7,[[],[],[],[],[],[],[0],[],[0,2,6,7]]),(6,[[1]])]) mixed (TblOk.cons ok_permit (TblOk.cons ok_wNum (TblOk.cons ok_codecs (TblOk.cons ok_wr1 (TblOk.cons ok_wr2 (TblOk.cons ok_wr3 (TblOk.cons ok_wr4 (TblOk.cons ok_wr5 (TblOk.cons ok_wr6 TblOk.nil))))))))) Tryz.func15 (by kernel_rfl) (by rfl) (rs:=[.tmp 2,.tmp 3]) (by rfl) (by kernel_rfl) (by simp only [Tryz.ntmps15,yaz,yba];decide) (Nat.le_refl _) fun hcl hlt=>?_
    change aw _ _ _ (KI Tryz.prog [(37,Ent.pure p_permit),(38,Ent.effect e_wNum),(39,Ent.pure p_codecs),(91,Ent.effect e_wr1),(96,Ent.effect e_wr2),(99,Ent.effect e_wr3),(103,Ent.effect e_wr4),(106,Ent.effect e_wr5),(109,Ent.effect e_wr6)] (aEnd Tryz.prog [.tmp 2,.tmp 3] H.nx _ _ (assoc [(7,[[],[],[],[],[],[],[0],[],[0,2,6,7]]),(6,[[1]])])) []) _ _
    clear hlt
    simp only [go_sem,reqC,p_permit]
    refine ⟨r,⟨rfl,hr.rc⟩,?_⟩
    rw [hp]
    try simp only [go_sem]
    simp (disch:=first | assumption | omega | (simp;done) | (simp;omega) | (simp only [bt,and_true];first | done | omega | (simp;done))) [↓zlw,beq,ybc,ybd,ybe,endOk,wk,wk2,wk1,wkM,wkL,wkLL,ybf,hcl,zkt]
    first | done | repeat (first | exact AHeap.Le.refl _ | refine AHeap.Le.push ?_ _)
  by_cases h1:32<r.ups.length
  · have d1:decide ((r.ups.length:Int) > 32)=true:=decide_eq_true (by omega)
    rw [show encR r=([],3) by unfold encR;rw [if_neg (by rw [hp];decide),if_pos (.inl h1)]]
    refine ACalls.of_aw (Ω:=[(37,Ent.pure p_permit),(38,Ent.effect e_wNum),(39,Ent.pure p_codecs),(91,Ent.effect e_wr1),(96,Ent.effect e_wr2),(99,Ent.effect e_wr3),(103,Ent.effect e_wr4),(106,Ent.effect e_wr5),(109,Ent.effect e_wr6)]) (T:=assoc [(7,[[],[],[],[],[],[],[0],[],[0,2,6,7]]),(6,[[1]])]) mixed (TblOk.cons ok_permit (TblOk.cons ok_wNum (TblOk.cons ok_codecs (TblOk.cons ok_wr1 (TblOk.cons ok_wr2 (TblOk.cons ok_wr3 (TblOk.cons ok_wr4 (TblOk.cons ok_wr5 (TblOk.cons ok_wr6 TblOk.nil))))))))) Tryz.func15 (by kernel_rfl) (by rfl) (rs:=[.tmp 2,.tmp 3]) (by rfl) (by kernel_rfl) (by simp only [Tryz.ntmps15,yaz,yba];decide) (Nat.le_refl _) fun hcl hlt=>?_
    change aw _ _ _ (KI Tryz.prog [(37,Ent.pure p_permit),(38,Ent.effect e_wNum),(39,Ent.pure p_codecs),(91,Ent.effect e_wr1),(96,Ent.effect e_wr2),(99,Ent.effect e_wr3),(103,Ent.effect e_wr4),(106,Ent.effect e_wr5),(109,Ent.effect e_wr6)] (aEnd Tryz.prog [.tmp 2,.tmp 3] H.nx _ _ (assoc [(7,[[],[],[],[],[],[],[0],[],[0,2,6,7]]),(6,[[1]])])) []) _ _
    clear hlt
    simp only [go_sem,reqC,p_permit]
    refine ⟨r,⟨rfl,hr.rc⟩,?_⟩
    rw [hp]
    try simp only [go_sem,ybb,d1]
    simp (disch:=first | assumption | omega | (simp;done) | (simp;omega) | (simp only [bt,and_true];first | done | omega | (simp;done))) [↓zlw,beq,ybc,ybd,ybe,endOk,wk,wk2,wk1,wkM,wkL,wkLL,ybf,hcl,zkt]
    first | done | repeat (first | exact AHeap.Le.refl _ | refine AHeap.Le.push ?_ _)
  have d1:decide ((r.ups.length:Int) > 32)=false:=decide_eq_false (by omega)
  by_cases h2:320<r.data.length
  · have d2:decide ((r.data.length:Int) > 320)=true:=decide_eq_true (by omega)
    rw [show encR r=([],3) by unfold encR;rw [if_neg (by rw [hp];decide),if_pos (.inr h2)]]
    refine ACalls.of_aw (Ω:=[(37,Ent.pure p_permit),(38,Ent.effect e_wNum),(39,Ent.pure p_codecs),(91,Ent.effect e_wr1),(96,Ent.effect e_wr2),(99,Ent.effect e_wr3),(103,Ent.effect e_wr4),(106,Ent.effect e_wr5),(109,Ent.effect e_wr6)]) (T:=assoc [(7,[[],[],[],[],[],[],[0],[],[0,2,6,7]]),(6,[[1]])]) mixed (TblOk.cons ok_permit (TblOk.cons ok_wNum (TblOk.cons ok_codecs (TblOk.cons ok_wr1 (TblOk.cons ok_wr2 (TblOk.cons ok_wr3 (TblOk.cons ok_wr4 (TblOk.cons ok_wr5 (TblOk.cons ok_wr6 TblOk.nil))))))))) Tryz.func15 (by kernel_rfl) (by rfl) (rs:=[.tmp 2,.tmp 3]) (by rfl) (by kernel_rfl) (by simp only [Tryz.ntmps15,yaz,yba];decide) (Nat.le_refl _) fun hcl hlt=>?_
    change aw _ _ _ (KI Tryz.prog [(37,Ent.pure p_permit),(38,Ent.effect e_wNum),(39,Ent.pure p_codecs),(91,Ent.effect e_wr1),(96,Ent.effect e_wr2),(99,Ent.effect e_wr3),(103,Ent.effect e_wr4),(106,Ent.effect e_wr5),(109,Ent.effect e_wr6)] (aEnd Tryz.prog [.tmp 2,.tmp 3] H.nx _ _ (assoc [(7,[[],[],[],[],[],[],[0],[],[0,2,6,7]]),(6,[[1]])])) []) _ _
    clear hlt
    simp only [go_sem,reqC,p_permit]
    refine ⟨r,⟨rfl,hr.rc⟩,?_⟩
    rw [hp]
    try simp only [go_sem,byq,ybb,d1,d2]
    simp (disch:=first | assumption | omega | (simp;done) | (simp;omega) | (simp only [bt,and_true];first | done | omega | (simp;done))) [↓zlw,beq,ybc,ybd,ybe,endOk,wk,wk2,wk1,wkM,wkL,wkLL,ybf,hcl,zkt]
    first | done | repeat (first | exact AHeap.Le.refl _ | refine AHeap.Le.push ?_ _)
  have d2:decide ((r.data.length:Int) > 320)=false:=decide_eq_false (by omega)
  have hk12:1≤r.kind∧r.kind≤6:=by
    unfold permR at hp
    rw [Bool.and_eq_true,decide_eq_true_eq] at hp
    exact hp.1
  have hk:=kind_cases hk12.1 hk12.2
  have he0:encR r=if (!rg r.kind 1||badR r.kind r)=true then ([],4) else if 8000<(wireR r).length then ([],3) else (wireR r,0):=by
    unfold encR;rw [if_neg (by rw [hp];decide),if_neg (by omega)]
  have hlb:=bodyR_len r.kind hr
  have hln:=wUint_len r.kind 1
  have hlw:(wireR r).length≤600000:=by unfold wireR;rw [List.length_append];omega
  obtain ⟨RE,hRE⟩:∃ RE,encR r=RE:=⟨_,rfl⟩
  rw [hRE] at he0 ⊢
  refine ACalls.of_aw (Ω:=[(37,Ent.pure p_permit),(38,Ent.effect e_wNum),(39,Ent.pure p_codecs),(91,Ent.effect e_wr1),(96,Ent.effect e_wr2),(99,Ent.effect e_wr3),(103,Ent.effect e_wr4),(106,Ent.effect e_wr5),(109,Ent.effect e_wr6)]) (T:=assoc [(7,[[],[],[],[],[],[],[0],[],[0,2,6,7]]),(6,[[1]])]) mixed (TblOk.cons ok_permit (TblOk.cons ok_wNum (TblOk.cons ok_codecs (TblOk.cons ok_wr1 (TblOk.cons ok_wr2 (TblOk.cons ok_wr3 (TblOk.cons ok_wr4 (TblOk.cons ok_wr5 (TblOk.cons ok_wr6 TblOk.nil))))))))) Tryz.func15 (by kernel_rfl) (by rfl) (rs:=[.tmp 2,.tmp 3]) (by rfl) (by kernel_rfl) (by simp only [Tryz.ntmps15,yaz,yba];decide) (Nat.le_refl _) fun hcl hlt=>?_
  change aw _ _ _ (KI Tryz.prog [(37,Ent.pure p_permit),(38,Ent.effect e_wNum),(39,Ent.pure p_codecs),(91,Ent.effect e_wr1),(96,Ent.effect e_wr2),(99,Ent.effect e_wr3),(103,Ent.effect e_wr4),(106,Ent.effect e_wr5),(109,Ent.effect e_wr6)] (aEnd Tryz.prog [.tmp 2,.tmp 3] H.nx _ _ (assoc [(7,[[],[],[],[],[],[],[0],[],[0,2,6,7]]),(6,[[1]])])) []) _ _
  clear hlt
  simp only [go_sem,reqC,p_permit]
  refine ⟨r,⟨rfl,hr.rc⟩,?_⟩
  rw [hp]
  try simp only [go_sem,byq,ybb,d1,d2]
  refine weak_cell 4 0 1 (cs:=[AV.slice .nil 1 [],AV.bool false]) rfl (by simp only [go_sem]) rfl ?_
  obtain ⟨HB,hHB⟩:∃ HB,HB=(((H.push (.cells (reqC r))).push (.buf 1 0)).push (.cells [.slice (.own (H.nx+1+1+1)) 1 [],.bool false])).push (.buf 1 0):=⟨_,rfl⟩
  have hnB:HB.nx=H.nx+1+1+1+1:=by rw [hHB];rfl
  have hWB:WOn HB (H.nx+1+1) (H.nx+1+1+1) [] false:=by
    rw [hHB]
    exact ⟨by simp [zkp,zkm,zkt],by simp [zkp,zkm],by simp⟩
  have hcB:HB.Closed:=by
    have h1:=closed_set (i:=H.nx+1+1) (cs:=[.slice (.own (H.nx+1+1+1)) 1 [],.bool false]) (closed_buf (a:=1) (b:=0) (closed_cells (cs:=[]) (closed_buf (a:=1) (b:=0) (closed_cells (cs:=reqC r) hcl (by have:=lt_req (n:=H.nx+1) r;simp only [reqAV,zmz] at this;exact this))) trivial)) (by simp only [znc,znd,zmo,and_true,zkm];rw [lt_sliceL];exact ⟨fun id h=>(by cases h;omega),trivial⟩)
    simp only [go_sem] at h1
    rw [hHB];exact h1
  have hcr:cellsOf? HB H.nx=some (reqC r):=by rw [hHB];simp only [go_sem,reqC]
  have hle:H.Le HB:=by rw [hHB];repeat (first | exact AHeap.Le.refl _ | refine AHeap.Le.push ?_ _)
  have hidB:=AHeap.get_lt hWB.o
  have hqB:=AHeap.get_lt hWB.bu
  have hc0:=fun b w=>(hWB.closed (b':=b) (wr':=w) hcB)
  have hcw:∀ b w,cellsOf? (wrH HB (H.nx+1+1) (H.nx+1+1+1) b w) H.nx=some (reqC r):=fun b w=>by rw [wrH_cells (by omega) (by omega),hcr]
  have hcI:∀ b w,cellsOf? (wrH HB (H.nx+1+1) (H.nx+1+1+1) b w) (H.nx+1+1)=some [.slice (.own (H.nx+1+1+1)) 1 (bys b),.bool w]:=fun b w=>by
    unfold cellsOf? wrH
    rw [AHeap.get_set_same _ _ (by rw [zkn];exact hidB)]
  have hlW:∀ b w,H.Le (wrH HB (H.nx+1+1) (H.nx+1+1+1) b w):=fun b w=>by
    refine ⟨hle.nx,fun j x hj=>?_⟩
    have hj2:=AHeap.get_lt hj
    unfold wrH
    rw [AHeap.get_set_ne _ _ (by omega),AHeap.get_set_ne _ _ (by omega)]
    exact hle.get _ _ hj
  have hcd:codL.length=6:=rfl
  have hl1:(wUint r.kind 1).length≤1000:=by omega
  have hWK:WOn (wrH HB (H.nx+1+1) (H.nx+1+1+1) (wUint r.kind 1) (!rg r.kind 1)) (H.nx+1+1) (H.nx+1+1+1) (wUint r.kind 1) (!rg r.kind 1):=hWB.next (by omega)
  simp only [reqC] at hHB hcr hcw
  simp only [blkE,blkP,bhq,Nat.reduceMod,Nat.reduceDiv,stepH,stepM,toMs1,toMs,toMs0,strK,pubK,pubF,pubV,yaq,yar,yao,yap,go_sem,byq,List.set_cons_zero,← hHB,reqC,e_wNum,hcr]
  refine ⟨H.nx+1+1+1,[],false,hWB,?_⟩
  simp only [yak,Bool.false_or]
  clear hHB
  obtain ⟨rw1,hrw1⟩:∃ w,wireR r=w:=⟨_,rfl⟩
  rcases hk with hk | hk | hk | hk | hk | hk
  · have hw:IntKind.i64.wrap (r.kind - 1)=0:=by rw [hk];decide
    have hg:codL.getD 0 .junk=.agg [.func (.func 90) [] [],.func (.func 91) [] [],.func (.func 93) [] []]:=rfl
    have et:((0:Int)).toNat=0:=rfl
    have hwr:wUint r.kind 1++bodyR 1 r=wireR r:=by unfold wireR;rw [hk]
    have hbd:badR 1 r=badR r.kind r:=by rw [hk]
    simp only [go_sem,byq,hcw,p_codecs,hw,hcd,et,hg,e_wr1]
    refine ⟨by omega,H.nx+1+1+1,_,_,r,⟨hWK,rfl,hr,hl1⟩,?_⟩
    rw [wrH_wrH hWB.ne,hwr,hbd]
    simp only [go_sem,byq,hcI]
    refine cond_split (fun hb=>?_) (fun hb=>?_)
    · rw [if_pos hb] at he0
      subst he0
      simp only [go_sem,byq,hcI]
      refine ⟨⟨.inl ⟨.inl rfl,rfl,rfl⟩,rfl,trivial⟩,by repeat (first | exact hlW _ _ | refine AHeap.Le.push ?_ _),hcl,?_⟩
      first | exact lt_resB | exact lt_resB (l:=[])
    · rw [if_neg (by rw [hb];decide)] at he0
      simp only [go_sem,byq,hcI]
      refine cond_split (fun hb2=>?_) (fun hb2=>?_)
      · have hb3:8000<(wireR r).length:=by simp at hb2;omega
        rw [if_pos hb3] at he0
        subst he0
        simp only [go_sem,byq,hcI]
        refine ⟨⟨.inl ⟨.inl rfl,rfl,rfl⟩,rfl,trivial⟩,by repeat (first | exact hlW _ _ | refine AHeap.Le.push ?_ _),hcl,?_⟩
        first | exact lt_resB | exact lt_resB (l:=[])
      · have hb3:¬ 8000<(wireR r).length:=by simp at hb2;omega
        rw [if_neg hb3] at he0
        subst he0
        simp only [go_sem,byq,hcI]
        refine ⟨⟨.inl ⟨.inl rfl,rfl,rfl⟩,rfl,trivial⟩,by repeat (first | exact hlW _ _ | refine AHeap.Le.push ?_ _),hcl,?_⟩
        first | exact lt_resB | exact lt_resB (l:=[])
  skip
  · have hw:IntKind.i64.wrap (r.kind - 1)=1:=by rw [hk];decide
    have hg:codL.getD 1 .junk=.agg [.func (.func 95) [] [],.func (.func 96) [] [],.func (.func 97) [] []]:=rfl
    have et:((1:Int)).toNat=1:=rfl
    have hwr:wUint r.kind 1++bodyR 2 r=wireR r:=by unfold wireR;rw [hk]
    have hbd:badR 2 r=badR r.kind r:=by rw [hk]
    simp only [go_sem,byq,hcw,p_codecs,hw,hcd,et,hg,e_wr2]
    refine ⟨by omega,H.nx+1+1+1,_,_,r,⟨hWK,rfl,hr,hl1⟩,?_⟩
    rw [wrH_wrH hWB.ne,hwr,hbd]
    simp only [go_sem,byq,hcI]
    refine cond_split (fun hb=>?_) (fun hb=>?_)
    · rw [if_pos hb] at he0
      subst he0
      simp only [go_sem,byq,hcI]
      refine ⟨⟨.inl ⟨.inl rfl,rfl,rfl⟩,rfl,trivial⟩,by repeat (first | exact hlW _ _ | refine AHeap.Le.push ?_ _),hcl,?_⟩
      first | exact lt_resB | exact lt_resB (l:=[])
    · rw [if_neg (by rw [hb];decide)] at he0
      simp only [go_sem,byq,hcI]
      refine cond_split (fun hb2=>?_) (fun hb2=>?_)
      · have hb3:8000<(wireR r).length:=by simp at hb2;omega
        rw [if_pos hb3] at he0
        subst he0
        simp only [go_sem,byq,hcI]
        refine ⟨⟨.inl ⟨.inl rfl,rfl,rfl⟩,rfl,trivial⟩,by repeat (first | exact hlW _ _ | refine AHeap.Le.push ?_ _),hcl,?_⟩
        first | exact lt_resB | exact lt_resB (l:=[])
      · have hb3:¬ 8000<(wireR r).length:=by simp at hb2;omega
        rw [if_neg hb3] at he0
        subst he0
        simp only [go_sem,byq,hcI]
        refine ⟨⟨.inl ⟨.inl rfl,rfl,rfl⟩,rfl,trivial⟩,by repeat (first | exact hlW _ _ | refine AHeap.Le.push ?_ _),hcl,?_⟩
        first | exact lt_resB | exact lt_resB (l:=[])
  skip
  · have hw:IntKind.i64.wrap (r.kind - 1)=2:=by rw [hk];decide
    have hg:codL.getD 2 .junk=.agg [.func (.func 98) [] [],.func (.func 99) [] [],.func (.func 100) [] []]:=rfl
    have et:((2:Int)).toNat=2:=rfl
    have hwr:wUint r.kind 1++bodyR 3 r=wireR r:=by unfold wireR;rw [hk]
    have hbd:badR 3 r=badR r.kind r:=by rw [hk]
    simp only [go_sem,byq,hcw,p_codecs,hw,hcd,et,hg,e_wr3]
    refine ⟨by omega,H.nx+1+1+1,_,_,r,⟨hWK,rfl,hr,hl1⟩,?_⟩
    rw [wrH_wrH hWB.ne,hwr,hbd]
    simp only [go_sem,byq,hcI]
    refine cond_split (fun hb=>?_) (fun hb=>?_)
    · rw [if_pos hb] at he0
      subst he0
      simp only [go_sem,byq,hcI]
      refine ⟨⟨.inl ⟨.inl rfl,rfl,rfl⟩,rfl,trivial⟩,by repeat (first | exact hlW _ _ | refine AHeap.Le.push ?_ _),hcl,?_⟩
      first | exact lt_resB | exact lt_resB (l:=[])
    · rw [if_neg (by rw [hb];decide)] at he0
      simp only [go_sem,byq,hcI]
      refine cond_split (fun hb2=>?_) (fun hb2=>?_)
      · have hb3:8000<(wireR r).length:=by simp at hb2;omega
        rw [if_pos hb3] at he0
        subst he0
        simp only [go_sem,byq,hcI]
        refine ⟨⟨.inl ⟨.inl rfl,rfl,rfl⟩,rfl,trivial⟩,by repeat (first | exact hlW _ _ | refine AHeap.Le.push ?_ _),hcl,?_⟩
        first | exact lt_resB | exact lt_resB (l:=[])
      · have hb3:¬ 8000<(wireR r).length:=by simp at hb2;omega
        rw [if_neg hb3] at he0
        subst he0
        simp only [go_sem,byq,hcI]
        refine ⟨⟨.inl ⟨.inl rfl,rfl,rfl⟩,rfl,trivial⟩,by repeat (first | exact hlW _ _ | refine AHeap.Le.push ?_ _),hcl,?_⟩
        first | exact lt_resB | exact lt_resB (l:=[])
  skip
  · have hw:IntKind.i64.wrap (r.kind - 1)=3:=by rw [hk];decide
    have hg:codL.getD 3 .junk=.agg [.func (.func 102) [] [],.func (.func 103) [] [],.func (.func 104) [] []]:=rfl
    have et:((3:Int)).toNat=3:=rfl
    have hwr:wUint r.kind 1++bodyR 4 r=wireR r:=by unfold wireR;rw [hk]
    have hbd:badR 4 r=badR r.kind r:=by rw [hk]
    simp only [go_sem,byq,hcw,p_codecs,hw,hcd,et,hg,e_wr4]
    refine ⟨by omega,H.nx+1+1+1,_,_,r,⟨hWK,rfl,hr,hl1⟩,?_⟩
    rw [wrH_wrH hWB.ne,hwr,hbd]
    simp only [go_sem,byq,hcI]
    refine cond_split (fun hb=>?_) (fun hb=>?_)
    · rw [if_pos hb] at he0
      subst he0
      simp only [go_sem,byq,hcI]
      refine ⟨⟨.inl ⟨.inl rfl,rfl,rfl⟩,rfl,trivial⟩,by repeat (first | exact hlW _ _ | refine AHeap.Le.push ?_ _),hcl,?_⟩
      first | exact lt_resB | exact lt_resB (l:=[])
    · rw [if_neg (by rw [hb];decide)] at he0
      simp only [go_sem,byq,hcI]
      refine cond_split (fun hb2=>?_) (fun hb2=>?_)
      · have hb3:8000<(wireR r).length:=by simp at hb2;omega
        rw [if_pos hb3] at he0
        subst he0
        simp only [go_sem,byq,hcI]
        refine ⟨⟨.inl ⟨.inl rfl,rfl,rfl⟩,rfl,trivial⟩,by repeat (first | exact hlW _ _ | refine AHeap.Le.push ?_ _),hcl,?_⟩
        first | exact lt_resB | exact lt_resB (l:=[])
      · have hb3:¬ 8000<(wireR r).length:=by simp at hb2;omega
        rw [if_neg hb3] at he0
        subst he0
        simp only [go_sem,byq,hcI]
        refine ⟨⟨.inl ⟨.inl rfl,rfl,rfl⟩,rfl,trivial⟩,by repeat (first | exact hlW _ _ | refine AHeap.Le.push ?_ _),hcl,?_⟩
        first | exact lt_resB | exact lt_resB (l:=[])
  skip
  · have hw:IntKind.i64.wrap (r.kind - 1)=4:=by rw [hk];decide
    have hg:codL.getD 4 .junk=.agg [.func (.func 105) [] [],.func (.func 106) [] [],.func (.func 107) [] []]:=rfl
    have et:((4:Int)).toNat=4:=rfl
    have hwr:wUint r.kind 1++bodyR 5 r=wireR r:=by unfold wireR;rw [hk]
    have hbd:badR 5 r=badR r.kind r:=by rw [hk]
    simp only [go_sem,byq,hcw,p_codecs,hw,hcd,et,hg,e_wr5]
    refine ⟨by omega,H.nx+1+1+1,_,_,r,⟨hWK,rfl,hr,hl1⟩,?_⟩
    rw [wrH_wrH hWB.ne,hwr,hbd]
    simp only [go_sem,byq,hcI]
    refine cond_split (fun hb=>?_) (fun hb=>?_)
    · rw [if_pos hb] at he0
      subst he0
      simp only [go_sem,byq,hcI]
      refine ⟨⟨.inl ⟨.inl rfl,rfl,rfl⟩,rfl,trivial⟩,by repeat (first | exact hlW _ _ | refine AHeap.Le.push ?_ _),hcl,?_⟩
      first | exact lt_resB | exact lt_resB (l:=[])
    · rw [if_neg (by rw [hb];decide)] at he0
      simp only [go_sem,byq,hcI]
      refine cond_split (fun hb2=>?_) (fun hb2=>?_)
      · have hb3:8000<(wireR r).length:=by simp at hb2;omega
        rw [if_pos hb3] at he0
        subst he0
        simp only [go_sem,byq,hcI]
        refine ⟨⟨.inl ⟨.inl rfl,rfl,rfl⟩,rfl,trivial⟩,by repeat (first | exact hlW _ _ | refine AHeap.Le.push ?_ _),hcl,?_⟩
        first | exact lt_resB | exact lt_resB (l:=[])
      · have hb3:¬ 8000<(wireR r).length:=by simp at hb2;omega
        rw [if_neg hb3] at he0
        subst he0
        simp only [go_sem,byq,hcI]
        refine ⟨⟨.inl ⟨.inl rfl,rfl,rfl⟩,rfl,trivial⟩,by repeat (first | exact hlW _ _ | refine AHeap.Le.push ?_ _),hcl,?_⟩
        first | exact lt_resB | exact lt_resB (l:=[])
  skip
  · have hw:IntKind.i64.wrap (r.kind - 1)=5:=by rw [hk];decide
    have hg:codL.getD 5 .junk=.agg [.func (.func 108) [] [],.func (.func 109) [] [],.func (.func 110) [] []]:=rfl
    have et:((5:Int)).toNat=5:=rfl
    have hwr:wUint r.kind 1++bodyR 6 r=wireR r:=by unfold wireR;rw [hk]
    have hbd:badR 6 r=badR r.kind r:=by rw [hk]
    simp only [go_sem,byq,hcw,p_codecs,hw,hcd,et,hg,e_wr6]
    refine ⟨by omega,H.nx+1+1+1,_,_,r,⟨hWK,rfl,hr,hl1⟩,?_⟩
    rw [wrH_wrH hWB.ne,hwr,hbd]
    simp only [go_sem,byq,hcI]
    refine cond_split (fun hb=>?_) (fun hb=>?_)
    · rw [if_pos hb] at he0
      subst he0
      simp only [go_sem,byq,hcI]
      refine ⟨⟨.inl ⟨.inl rfl,rfl,rfl⟩,rfl,trivial⟩,by repeat (first | exact hlW _ _ | refine AHeap.Le.push ?_ _),hcl,?_⟩
      first | exact lt_resB | exact lt_resB (l:=[])
    · rw [if_neg (by rw [hb];decide)] at he0
      simp only [go_sem,byq,hcI]
      refine cond_split (fun hb2=>?_) (fun hb2=>?_)
      · have hb3:8000<(wireR r).length:=by simp at hb2;omega
        rw [if_pos hb3] at he0
        subst he0
        simp only [go_sem,byq,hcI]
        refine ⟨⟨.inl ⟨.inl rfl,rfl,rfl⟩,rfl,trivial⟩,by repeat (first | exact hlW _ _ | refine AHeap.Le.push ?_ _),hcl,?_⟩
        first | exact lt_resB | exact lt_resB (l:=[])
      · have hb3:¬ 8000<(wireR r).length:=by simp at hb2;omega
        rw [if_neg hb3] at he0
        subst he0
        simp only [go_sem,byq,hcI]
        refine ⟨⟨.inl ⟨.inl rfl,rfl,rfl⟩,rfl,trivial⟩,by repeat (first | exact hlW _ _ | refine AHeap.Le.push ?_ _),hcl,?_⟩
        first | exact lt_resB | exact lt_resB (l:=[])
end Go.AL


open Go Go.AL Go.Proofs
namespace Go.AL
set_option linter.all false
set_option maxRecDepth 10000

def p_xWithin:List AV→AHeap→(AV→Prop)→Prop
  | [.int .i64 n,.int .i64 a,.int .i64 b],_,K=>K (.bool (decide (a≤n∧n≤b)))
  | _,_,_=>False
theorem ok_xWithin:EntOk Tryz.prog 42 (Ent.pure p_xWithin):=by
  refine EntOk.pure fun args H K h=>?_
  unfold p_xWithin at h
  split at h
  rotate_left
  · exact h.elim
  rename_i n a b
  refine ⟨_,h,?_⟩
  clear h
  by_cases h1:a≤n
  · have d1:decide (n ≥ a)=true:=decide_eq_true h1
    rw [show decide (a≤n∧n≤b)=decide (n≤b) by rw [decide_eq_decide];exact ⟨fun h=>h.2,fun h=>⟨h1,h⟩⟩]
    refine ACalls.of_aw (Ω:=[]) (T:=assoc []) mixed TblOk.nil Tryz.func42 (by kernel_rfl) (by rfl) (rs:=[.tmp 6]) (by rfl) (by kernel_rfl) (by simp only [Tryz.ntmps42,yaz,yba];decide) (Nat.le_refl _) fun hcl hlt=>?_
    change aw _ _ _ (KI Tryz.prog [] (aEnd Tryz.prog [.tmp 6] H.nx _ _ (assoc [])) []) _ _
    clear hlt
    simp only [go_sem,d1]
    simp (disch:=first | assumption | omega | (simp;done) | (simp;omega) | (simp only [bt,and_true];first | done | omega | (simp;done))) [↓zlw,beq,ybc,ybd,ybe,endOk,wk,wk2,wk1,wkM,wkL,wkLL,ybf,hcl]
  · have d1:decide (n ≥ a)=false:=decide_eq_false h1
    rw [show decide (a≤n∧n≤b)=false from decide_eq_false fun h=>h1 h.1]
    refine ACalls.of_aw (Ω:=[]) (T:=assoc []) mixed TblOk.nil Tryz.func42 (by kernel_rfl) (by rfl) (rs:=[.tmp 6]) (by rfl) (by kernel_rfl) (by simp only [Tryz.ntmps42,yaz,yba];decide) (Nat.le_refl _) fun hcl hlt=>?_
    change aw _ _ _ (KI Tryz.prog [] (aEnd Tryz.prog [.tmp 6] H.nx _ _ (assoc [])) []) _ _
    clear hlt
    simp only [go_sem,d1]
    simp (disch:=first | assumption | omega | (simp;done) | (simp;omega) | (simp only [bt,and_true];first | done | omega | (simp;done))) [↓zlw,beq,ybc,ybd,ybe,endOk,wk,wk2,wk1,wkM,wkL,wkLL,ybf,hcl]
theorem rg2 (n:Int):decide (0≤n∧n≤65535)=rg n 2:=by
  unfold rg;rw [decide_eq_decide];exact ⟨fun h=>⟨h.1,by have:=h.2;show n<65536;omega⟩,fun h=>⟨h.1,by have:n<65536:=h.2;omega⟩⟩
theorem rg1 (n:Int):decide (0≤n∧n≤255)=rg n 1:=by
  unfold rg;rw [decide_eq_decide];exact ⟨fun h=>⟨h.1,by have:=h.2;show n<256;omega⟩,fun h=>⟨h.1,by have:n<256:=h.2;omega⟩⟩
theorem rg4 (n:Int):decide (0≤n∧n≤4294967295)=rg n 4:=by
  unfold rg;rw [decide_eq_decide];exact ⟨fun h=>⟨h.1,by have:=h.2;show n<4294967296;omega⟩,fun h=>⟨h.1,by have:n<4294967296:=h.2;omega⟩⟩
def p_xWord:List AV→AHeap→(AV→Prop)→Prop
  | [.slice _ 1 l],_,K=>∃ xs:List Int,(l=xs.map (AV.int .i64)∧xs.length≤1000)∧K (.bool (xs.all fun n=>rg n 2))
  | _,_,_=>False
set_option maxHeartbeats 2000000 in
theorem ok_xWord:EntOk Tryz.prog 41 (Ent.pure p_xWord):=by
  refine EntOk.pure fun args H K h=>?_
  unfold p_xWord at h
  split at h
  rotate_left
  · exact h.elim
  rename_i m l
  obtain ⟨xs,⟨rfl,hl⟩,hK⟩:=h
  refine ⟨_,hK,?_⟩
  clear hK
  obtain ⟨R,hR⟩:∃ R,(xs.all fun n=>rg n 2)=R:=⟨_,rfl⟩
  rw [hR]
  refine ACalls.of_aw (Ω:=[(42,Ent.pure p_xWithin)]) (T:=assoc []) mixed (TblOk.cons ok_xWithin TblOk.nil) Tryz.func41 (by kernel_rfl) (by rfl) (rs:=[.tmp 2]) (by rfl) (by kernel_rfl) (by simp only [Tryz.ntmps41,yaz,yba];decide) (Nat.le_refl _) fun hcl hlt=>?_
  change aw _ _ _ (KI Tryz.prog [(42,Ent.pure p_xWithin)] (aEnd Tryz.prog [.tmp 2] H.nx _ _ (assoc [])) []) _ _
  have hs1:=hlt (.slice m 1 (xs.map (AV.int .i64))) (by simp)
  clear hlt
  simp only [go_sem,ybb]
  refine loop_introW (A:=Nat) (fun k=>[(5,.slice m 1 (xs.map (AV.int .i64))),(6,.int .i64 (xs.length:Int)),(7,.int .i64 (k:Int))]) (fun _=>H) (fun k=>k≤xs.length∧((xs.drop k).all fun n=>rg n 2)=R) (fun k=>xs.length - k) 0 ⟨by omega,hR⟩ ?_ fun k hk=>?_
  · refine ⟨by simp only [zjy,zkd];omega,AHeap.Le.refl _,hcl,?_,?_⟩
    · simp only [ltF,zmn,and_true]
      exact hs1
    · simp [subW,wk2,wk1,wkM,Fr.get]
  obtain ⟨hk,hq⟩:=hk
  simp only [go_sem]
  refine cond_split (fun hc=>?_) (fun hc=>?_)
  · have hk':k<xs.length:=by simp at hc;omega
    obtain ⟨x,hx⟩:∃ x,x=xs[k]:=⟨_,rfl⟩
    have hd:xs.drop k=x::xs.drop (k+1):=by rw [hx];exact List.drop_eq_getElem_cons hk'
    have hg:=getD_map (f:=AV.int .i64) (l:=xs) (k:=k) (x:=x) (by rw [List.getElem?_eq_getElem hk',hx])
    have e5:IntKind.i64.wrap ((k:Int)+1)=((k+1:Nat):Int):=by rw [wrap_i64]<;>omega
    rw [hd,List.all_cons] at hq
    simp only [go_sem,Int.toNat_natCast,ybb,hg,p_xWithin,rg2]
    (repeat with_reducible refine And.intro (by first | assumption | decide | omega) ?_)
    refine cond_split (fun hb=>?_) (fun hb=>?_)
    · have hb':rg x 2=false:=by simpa using hb
      rw [hb',Bool.false_and] at hq
      rw [← hq]
      simp only [go_sem]
      simp (disch:=first | assumption | omega | (simp;done) | (simp;omega) | (simp only [bt,and_true];first | done | omega | (simp;done))) [↓zlw,beq,ybc,ybd,ybe,endOk,wk,wk2,wk1,wkM,wkL,wkLL,ybf,hcl]
    · have hb':rg x 2=true:=by simpa using hb
      rw [hb',Bool.true_and] at hq
      simp only [go_sem,e5]
      refine ⟨k+1,⟨by omega,hq⟩,by omega,by (try simp only [zkm]);omega,by repeat (first | exact AHeap.Le.refl _ | refine AHeap.Le.push ?_ _),hcl,?_,?_⟩
      · simp only [ltF,zmn,and_true]
        exact hs1
      · simp [subW,wk2,wk1,wkM,Fr.get]
  · have hk':k=xs.length:=by simp at hc;omega
    subst hk'
    rw [List.drop_length] at hq
    rw [← hq]
    simp only [go_sem,List.all_nil]
    simp (disch:=first | assumption | omega | (simp;done) | (simp;omega) | (simp only [bt,and_true];first | done | omega | (simp;done))) [↓zlw,beq,ybc,ybd,ybe,endOk,wk,wk2,wk1,wkM,wkL,wkLL,ybf,hcl]
def p_xRanged:List AV→AHeap→(AV→Prop)→Prop
  | [.agg l],_,K=>∃ e:SEntry,(l=entryC e∧COk e)∧K (.bool (rgE e))
  | _,_,_=>False
theorem rgE_split (e:SEntry):rgE e=(([e.table,e.prio,e.act].all fun n=>rg n 2)&&decide (e.ms.length≤4)&&decide (e.args.length≤4)&&e.ms.all rgM):=by
  unfold rgE
  simp only [List.all_cons,List.all_nil,Bool.and_true,Bool.and_assoc]
set_option maxHeartbeats 4000000 in
theorem ok_xRanged:EntOk Tryz.prog 43 (Ent.pure p_xRanged):=by
  refine EntOk.pure fun args H K h=>?_
  unfold p_xRanged at h
  split at h
  rotate_left
  · exact h.elim
  rename_i l
  obtain ⟨e,⟨rfl,he⟩,hK⟩:=h
  refine ⟨_,hK,?_⟩
  clear hK
  rw [rgE_split]
  have hml:=he.ok.ml
  obtain ⟨W3,hW3⟩:∃ W3,([e.table,e.prio,e.act].all fun n=>rg n 2)=W3:=⟨_,rfl⟩
  rw [hW3]
  have d3:decide ((e.ms.length:Int)≤4)=decide (e.ms.length≤4):=by rw [decide_eq_decide];omega
  have d4:decide ((e.args.length:Int)≤4)=decide (e.args.length≤4):=by rw [decide_eq_decide];omega
  generalize hl4:decide (e.ms.length≤4)=L4 at *
  generalize ha4:decide (e.args.length≤4)=A4 at *
  cases W3
  · simp only [Bool.false_and]
    refine ACalls.of_aw (Ω:=[(41,Ent.pure p_xWord),(42,Ent.pure p_xWithin)]) (T:=assoc []) mixed (TblOk.cons ok_xWord (TblOk.cons ok_xWithin TblOk.nil)) Tryz.func43 (by kernel_rfl) (by rfl) (rs:=[.tmp 2]) (by rfl) (by kernel_rfl) (by simp only [Tryz.ntmps43,yaz,yba];decide) (Nat.le_refl _) fun hcl hlt=>?_
    change aw _ _ _ (KI Tryz.prog [(41,Ent.pure p_xWord),(42,Ent.pure p_xWithin)] (aEnd Tryz.prog [.tmp 2] H.nx _ _ (assoc [])) []) _ _
    clear hlt
    simp only [go_sem,entryC,p_xWord,ybb]
    try refine ⟨[e.table,e.prio,e.act],⟨rfl,by simp⟩,?_⟩
    rw [hW3]
    try simp only [go_sem,entryC,ybb]
    refine loop_introW (A:=Nat) (fun k=>[(3,.bool (false&&(e.ms.take k).all rgM)),(27,.slice .any 8 (e.ms.map matchAV)),(28,.int .i64 (e.ms.length:Int)),(29,.int .i64 (k:Int))]) (fun _=>H) (fun k=>k≤e.ms.length) (fun k=>e.ms.length - k) 0 (by omega) ?_ fun k hk=>?_
    · refine ⟨by simp only [zjy,zkd];omega,by repeat (first | exact AHeap.Le.refl _ | refine AHeap.Le.push ?_ _),hcl,?_,?_⟩
      · simp [ltF,zmn,zmo,lt_map lt_match]
      · simp [subW,wk2,wk1,wkM,Fr.get]
    simp only [go_sem]
    refine cond_split (fun hc=>?_) (fun hc=>?_)
    · have hk':k<e.ms.length:=by simp at hc;omega
      obtain ⟨m,hm⟩:∃ m,m=e.ms[k]:=⟨_,rfl⟩
      have hg:=getD_map (f:=matchAV) (l:=e.ms) (k:=k) (x:=m) (by rw [List.getElem?_eq_getElem hk',hm])
      have e5:IntKind.i64.wrap ((k:Int)+1)=((k+1:Nat):Int):=by rw [wrap_i64]<;>omega
      have tm:=teq_noMatch (m:=m)
      have et:e.ms.take (k+1)=e.ms.take k++[m]:=by rw [hm,List.take_succ_eq_append_getElem hk']
      have eB:(false&&(e.ms.take (k+1)).all rgM)=((false&&(e.ms.take k).all rgM)&&rgM m):=by rw [et,List.all_append,List.all_cons,List.all_nil,Bool.and_true,Bool.and_assoc]
      obtain ⟨Bn,hBn⟩:∃ Bn,(false&&(e.ms.take (k+1)).all rgM)=Bn:=⟨_,rfl⟩
      rw [hBn] at eB
      generalize (false&&(e.ms.take k).all rgM)=Bk at *
      have fin:∀ (X:List AV),True:=fun _=>trivial
      cases Bk
      · rw [Bool.false_and] at eB
        simp only [go_sem,Int.toNat_natCast,ybb,hg,matchAV,matchC,vc,yal,yak,e5]
        (repeat with_reducible refine And.intro (by first | assumption | decide | omega) ?_)
        refine ⟨k+1,by omega,by omega,by (try simp only [zkm]);omega,by repeat (first | exact AHeap.Le.refl _ | refine AHeap.Le.push ?_ _),hcl,?_,?_⟩
        · simp [ltF,zmn,zmo,lt_map lt_match]
        · simp [subW,wk2,wk1,wkM,Fr.get,hBn,eB]
      · rw [Bool.true_and] at eB
        cases hp1:rg m.pfx 1
        · have er:rgM m=false:=by unfold rgM;rw [hp1];rfl
          rw [er] at eB
          simp only [go_sem,Int.toNat_natCast,ybb,hg,matchAV,matchC,vc,yal,yak,e5,p_xWithin,rg1,hp1]
          (repeat with_reducible refine And.intro (by first | assumption | decide | omega) ?_)
          refine ⟨k+1,by omega,by omega,by (try simp only [zkm]);omega,by repeat (first | exact AHeap.Le.refl _ | refine AHeap.Le.push ?_ _),hcl,?_,?_⟩
          · simp [ltF,zmn,zmo,lt_map lt_match]
          · simp [subW,wk2,wk1,wkM,Fr.get,hBn,eB]
        · cases hpr:m.present
          · have er:rgM m=decide (m=noMatch):=by unfold rgM;rw [hp1,hpr];simp
            rw [er] at eB
            generalize decide (m=noMatch)=D at *
            simp only [matchC,vc,yal,yak,hpr] at tm
            simp only [go_sem,Int.toNat_natCast,ybb,hg,matchAV,matchC,vc,yal,yak,e5,p_xWithin,rg1,hp1,hpr,tm,eqg_matchV,Bool.bne_false]
            (repeat with_reducible refine And.intro (by first | assumption | decide | omega) ?_)
            refine ⟨k+1,by omega,by omega,by (try simp only [zkm]);omega,by repeat (first | exact AHeap.Le.refl _ | refine AHeap.Le.push ?_ _),hcl,?_,?_⟩
            · simp [ltF,zmn,zmo,lt_map lt_match]
            · simp [subW,wk2,wk1,wkM,Fr.get,hBn,eB]
          · have er:rgM m=true:=by unfold rgM;rw [hp1,hpr];rfl
            rw [er] at eB
            simp only [go_sem,Int.toNat_natCast,ybb,hg,matchAV,matchC,vc,yal,yak,e5,p_xWithin,rg1,hp1,hpr]
            (repeat with_reducible refine And.intro (by first | assumption | decide | omega) ?_)
            refine ⟨k+1,by omega,by omega,by (try simp only [zkm]);omega,by repeat (first | exact AHeap.Le.refl _ | refine AHeap.Le.push ?_ _),hcl,?_,?_⟩
            · simp [ltF,zmn,zmo,lt_map lt_match]
            · simp [subW,wk2,wk1,wkM,Fr.get,hBn,eB]
    · have hk':k=e.ms.length:=by simp at hc;omega
      subst hk'
      rw [List.take_length]
      simp only [go_sem]
      simp (disch:=first | assumption | omega | (simp;done) | (simp;omega) | (simp only [bt,and_true];first | done | omega | (simp;done))) [↓zlw,beq,ybc,ybd,ybe,endOk,wk,wk2,wk1,wkM,wkL,wkLL,ybf,hcl]
  cases L4
  · simp only [Bool.false_and,Bool.true_and]
    refine ACalls.of_aw (Ω:=[(41,Ent.pure p_xWord),(42,Ent.pure p_xWithin)]) (T:=assoc []) mixed (TblOk.cons ok_xWord (TblOk.cons ok_xWithin TblOk.nil)) Tryz.func43 (by kernel_rfl) (by rfl) (rs:=[.tmp 2]) (by rfl) (by kernel_rfl) (by simp only [Tryz.ntmps43,yaz,yba];decide) (Nat.le_refl _) fun hcl hlt=>?_
    change aw _ _ _ (KI Tryz.prog [(41,Ent.pure p_xWord),(42,Ent.pure p_xWithin)] (aEnd Tryz.prog [.tmp 2] H.nx _ _ (assoc [])) []) _ _
    clear hlt
    simp only [go_sem,entryC,p_xWord,ybb,d3]
    try refine ⟨[e.table,e.prio,e.act],⟨rfl,by simp⟩,?_⟩
    rw [hW3]
    try simp only [go_sem,entryC,ybb,d3]
    refine loop_introW (A:=Nat) (fun k=>[(3,.bool (false&&(e.ms.take k).all rgM)),(27,.slice .any 8 (e.ms.map matchAV)),(28,.int .i64 (e.ms.length:Int)),(29,.int .i64 (k:Int))]) (fun _=>H) (fun k=>k≤e.ms.length) (fun k=>e.ms.length - k) 0 (by omega) ?_ fun k hk=>?_
    · refine ⟨by simp only [zjy,zkd];omega,by repeat (first | exact AHeap.Le.refl _ | refine AHeap.Le.push ?_ _),hcl,?_,?_⟩
      · simp [ltF,zmn,zmo,lt_map lt_match]
      · simp [subW,wk2,wk1,wkM,Fr.get]
    simp only [go_sem]
    refine cond_split (fun hc=>?_) (fun hc=>?_)
    · have hk':k<e.ms.length:=by simp at hc;omega
      obtain ⟨m,hm⟩:∃ m,m=e.ms[k]:=⟨_,rfl⟩
      have hg:=getD_map (f:=matchAV) (l:=e.ms) (k:=k) (x:=m) (by rw [List.getElem?_eq_getElem hk',hm])
      have e5:IntKind.i64.wrap ((k:Int)+1)=((k+1:Nat):Int):=by rw [wrap_i64]<;>omega
      have tm:=teq_noMatch (m:=m)
      have et:e.ms.take (k+1)=e.ms.take k++[m]:=by rw [hm,List.take_succ_eq_append_getElem hk']
      have eB:(false&&(e.ms.take (k+1)).all rgM)=((false&&(e.ms.take k).all rgM)&&rgM m):=by rw [et,List.all_append,List.all_cons,List.all_nil,Bool.and_true,Bool.and_assoc]
      obtain ⟨Bn,hBn⟩:∃ Bn,(false&&(e.ms.take (k+1)).all rgM)=Bn:=⟨_,rfl⟩
      rw [hBn] at eB
      generalize (false&&(e.ms.take k).all rgM)=Bk at *
      have fin:∀ (X:List AV),True:=fun _=>trivial
      cases Bk
      · rw [Bool.false_and] at eB
        simp only [go_sem,Int.toNat_natCast,ybb,hg,matchAV,matchC,vc,yal,yak,e5]
        (repeat with_reducible refine And.intro (by first | assumption | decide | omega) ?_)
        refine ⟨k+1,by omega,by omega,by (try simp only [zkm]);omega,by repeat (first | exact AHeap.Le.refl _ | refine AHeap.Le.push ?_ _),hcl,?_,?_⟩
        · simp [ltF,zmn,zmo,lt_map lt_match]
        · simp [subW,wk2,wk1,wkM,Fr.get,hBn,eB]
      · rw [Bool.true_and] at eB
        cases hp1:rg m.pfx 1
        · have er:rgM m=false:=by unfold rgM;rw [hp1];rfl
          rw [er] at eB
          simp only [go_sem,Int.toNat_natCast,ybb,hg,matchAV,matchC,vc,yal,yak,e5,p_xWithin,rg1,hp1]
          (repeat with_reducible refine And.intro (by first | assumption | decide | omega) ?_)
          refine ⟨k+1,by omega,by omega,by (try simp only [zkm]);omega,by repeat (first | exact AHeap.Le.refl _ | refine AHeap.Le.push ?_ _),hcl,?_,?_⟩
          · simp [ltF,zmn,zmo,lt_map lt_match]
          · simp [subW,wk2,wk1,wkM,Fr.get,hBn,eB]
        · cases hpr:m.present
          · have er:rgM m=decide (m=noMatch):=by unfold rgM;rw [hp1,hpr];simp
            rw [er] at eB
            generalize decide (m=noMatch)=D at *
            simp only [matchC,vc,yal,yak,hpr] at tm
            simp only [go_sem,Int.toNat_natCast,ybb,hg,matchAV,matchC,vc,yal,yak,e5,p_xWithin,rg1,hp1,hpr,tm,eqg_matchV,Bool.bne_false]
            (repeat with_reducible refine And.intro (by first | assumption | decide | omega) ?_)
            refine ⟨k+1,by omega,by omega,by (try simp only [zkm]);omega,by repeat (first | exact AHeap.Le.refl _ | refine AHeap.Le.push ?_ _),hcl,?_,?_⟩
            · simp [ltF,zmn,zmo,lt_map lt_match]
            · simp [subW,wk2,wk1,wkM,Fr.get,hBn,eB]
          · have er:rgM m=true:=by unfold rgM;rw [hp1,hpr];rfl
            rw [er] at eB
            simp only [go_sem,Int.toNat_natCast,ybb,hg,matchAV,matchC,vc,yal,yak,e5,p_xWithin,rg1,hp1,hpr]
            (repeat with_reducible refine And.intro (by first | assumption | decide | omega) ?_)
            refine ⟨k+1,by omega,by omega,by (try simp only [zkm]);omega,by repeat (first | exact AHeap.Le.refl _ | refine AHeap.Le.push ?_ _),hcl,?_,?_⟩
            · simp [ltF,zmn,zmo,lt_map lt_match]
            · simp [subW,wk2,wk1,wkM,Fr.get,hBn,eB]
    · have hk':k=e.ms.length:=by simp at hc;omega
      subst hk'
      rw [List.take_length]
      simp only [go_sem]
      simp (disch:=first | assumption | omega | (simp;done) | (simp;omega) | (simp only [bt,and_true];first | done | omega | (simp;done))) [↓zlw,beq,ybc,ybd,ybe,endOk,wk,wk2,wk1,wkM,wkL,wkLL,ybf,hcl]
  cases A4
  · simp only [Bool.false_and,Bool.true_and]
    refine ACalls.of_aw (Ω:=[(41,Ent.pure p_xWord),(42,Ent.pure p_xWithin)]) (T:=assoc []) mixed (TblOk.cons ok_xWord (TblOk.cons ok_xWithin TblOk.nil)) Tryz.func43 (by kernel_rfl) (by rfl) (rs:=[.tmp 2]) (by rfl) (by kernel_rfl) (by simp only [Tryz.ntmps43,yaz,yba];decide) (Nat.le_refl _) fun hcl hlt=>?_
    change aw _ _ _ (KI Tryz.prog [(41,Ent.pure p_xWord),(42,Ent.pure p_xWithin)] (aEnd Tryz.prog [.tmp 2] H.nx _ _ (assoc [])) []) _ _
    clear hlt
    simp only [go_sem,entryC,p_xWord,ybb,d3,d4]
    try refine ⟨[e.table,e.prio,e.act],⟨rfl,by simp⟩,?_⟩
    rw [hW3]
    try simp only [go_sem,entryC,ybb,d3,d4]
    refine loop_introW (A:=Nat) (fun k=>[(3,.bool (false&&(e.ms.take k).all rgM)),(27,.slice .any 8 (e.ms.map matchAV)),(28,.int .i64 (e.ms.length:Int)),(29,.int .i64 (k:Int))]) (fun _=>H) (fun k=>k≤e.ms.length) (fun k=>e.ms.length - k) 0 (by omega) ?_ fun k hk=>?_
    · refine ⟨by simp only [zjy,zkd];omega,by repeat (first | exact AHeap.Le.refl _ | refine AHeap.Le.push ?_ _),hcl,?_,?_⟩
      · simp [ltF,zmn,zmo,lt_map lt_match]
      · simp [subW,wk2,wk1,wkM,Fr.get]
    simp only [go_sem]
    refine cond_split (fun hc=>?_) (fun hc=>?_)
    · have hk':k<e.ms.length:=by simp at hc;omega
      obtain ⟨m,hm⟩:∃ m,m=e.ms[k]:=⟨_,rfl⟩
      have hg:=getD_map (f:=matchAV) (l:=e.ms) (k:=k) (x:=m) (by rw [List.getElem?_eq_getElem hk',hm])
      have e5:IntKind.i64.wrap ((k:Int)+1)=((k+1:Nat):Int):=by rw [wrap_i64]<;>omega
      have tm:=teq_noMatch (m:=m)
      have et:e.ms.take (k+1)=e.ms.take k++[m]:=by rw [hm,List.take_succ_eq_append_getElem hk']
      have eB:(false&&(e.ms.take (k+1)).all rgM)=((false&&(e.ms.take k).all rgM)&&rgM m):=by rw [et,List.all_append,List.all_cons,List.all_nil,Bool.and_true,Bool.and_assoc]
      obtain ⟨Bn,hBn⟩:∃ Bn,(false&&(e.ms.take (k+1)).all rgM)=Bn:=⟨_,rfl⟩
      rw [hBn] at eB
      generalize (false&&(e.ms.take k).all rgM)=Bk at *
      have fin:∀ (X:List AV),True:=fun _=>trivial
      cases Bk
      · rw [Bool.false_and] at eB
        simp only [go_sem,Int.toNat_natCast,ybb,hg,matchAV,matchC,vc,yal,yak,e5]
        (repeat with_reducible refine And.intro (by first | assumption | decide | omega) ?_)
        refine ⟨k+1,by omega,by omega,by (try simp only [zkm]);omega,by repeat (first | exact AHeap.Le.refl _ | refine AHeap.Le.push ?_ _),hcl,?_,?_⟩
        · simp [ltF,zmn,zmo,lt_map lt_match]
        · simp [subW,wk2,wk1,wkM,Fr.get,hBn,eB]
      · rw [Bool.true_and] at eB
        cases hp1:rg m.pfx 1
        · have er:rgM m=false:=by unfold rgM;rw [hp1];rfl
          rw [er] at eB
          simp only [go_sem,Int.toNat_natCast,ybb,hg,matchAV,matchC,vc,yal,yak,e5,p_xWithin,rg1,hp1]
          (repeat with_reducible refine And.intro (by first | assumption | decide | omega) ?_)
          refine ⟨k+1,by omega,by omega,by (try simp only [zkm]);omega,by repeat (first | exact AHeap.Le.refl _ | refine AHeap.Le.push ?_ _),hcl,?_,?_⟩
          · simp [ltF,zmn,zmo,lt_map lt_match]
          · simp [subW,wk2,wk1,wkM,Fr.get,hBn,eB]
        · cases hpr:m.present
          · have er:rgM m=decide (m=noMatch):=by unfold rgM;rw [hp1,hpr];simp
            rw [er] at eB
            generalize decide (m=noMatch)=D at *
            simp only [matchC,vc,yal,yak,hpr] at tm
            simp only [go_sem,Int.toNat_natCast,ybb,hg,matchAV,matchC,vc,yal,yak,e5,p_xWithin,rg1,hp1,hpr,tm,eqg_matchV,Bool.bne_false]
            (repeat with_reducible refine And.intro (by first | assumption | decide | omega) ?_)
            refine ⟨k+1,by omega,by omega,by (try simp only [zkm]);omega,by repeat (first | exact AHeap.Le.refl _ | refine AHeap.Le.push ?_ _),hcl,?_,?_⟩
            · simp [ltF,zmn,zmo,lt_map lt_match]
            · simp [subW,wk2,wk1,wkM,Fr.get,hBn,eB]
          · have er:rgM m=true:=by unfold rgM;rw [hp1,hpr];rfl
            rw [er] at eB
            simp only [go_sem,Int.toNat_natCast,ybb,hg,matchAV,matchC,vc,yal,yak,e5,p_xWithin,rg1,hp1,hpr]
            (repeat with_reducible refine And.intro (by first | assumption | decide | omega) ?_)
            refine ⟨k+1,by omega,by omega,by (try simp only [zkm]);omega,by repeat (first | exact AHeap.Le.refl _ | refine AHeap.Le.push ?_ _),hcl,?_,?_⟩
            · simp [ltF,zmn,zmo,lt_map lt_match]
            · simp [subW,wk2,wk1,wkM,Fr.get,hBn,eB]
    · have hk':k=e.ms.length:=by simp at hc;omega
      subst hk'
      rw [List.take_length]
      simp only [go_sem]
      simp (disch:=first | assumption | omega | (simp;done) | (simp;omega) | (simp only [bt,and_true];first | done | omega | (simp;done))) [↓zlw,beq,ybc,ybd,ybe,endOk,wk,wk2,wk1,wkM,wkL,wkLL,ybf,hcl]
  simp only [Bool.true_and]
  refine ACalls.of_aw (Ω:=[(41,Ent.pure p_xWord),(42,Ent.pure p_xWithin)]) (T:=assoc []) mixed (TblOk.cons ok_xWord (TblOk.cons ok_xWithin TblOk.nil)) Tryz.func43 (by kernel_rfl) (by rfl) (rs:=[.tmp 2]) (by rfl) (by kernel_rfl) (by simp only [Tryz.ntmps43,yaz,yba];decide) (Nat.le_refl _) fun hcl hlt=>?_
  change aw _ _ _ (KI Tryz.prog [(41,Ent.pure p_xWord),(42,Ent.pure p_xWithin)] (aEnd Tryz.prog [.tmp 2] H.nx _ _ (assoc [])) []) _ _
  clear hlt
  simp only [go_sem,entryC,p_xWord,ybb,d3,d4]
  try refine ⟨[e.table,e.prio,e.act],⟨rfl,by simp⟩,?_⟩
  rw [hW3]
  try simp only [go_sem,entryC,ybb,d3,d4]
  refine loop_introW (A:=Nat) (fun k=>[(3,.bool (true&&(e.ms.take k).all rgM)),(27,.slice .any 8 (e.ms.map matchAV)),(28,.int .i64 (e.ms.length:Int)),(29,.int .i64 (k:Int))]) (fun _=>H) (fun k=>k≤e.ms.length) (fun k=>e.ms.length - k) 0 (by omega) ?_ fun k hk=>?_
  · refine ⟨by simp only [zjy,zkd];omega,by repeat (first | exact AHeap.Le.refl _ | refine AHeap.Le.push ?_ _),hcl,?_,?_⟩
    · simp [ltF,zmn,zmo,lt_map lt_match]
    · simp [subW,wk2,wk1,wkM,Fr.get]
  simp only [go_sem]
  refine cond_split (fun hc=>?_) (fun hc=>?_)
  · have hk':k<e.ms.length:=by simp at hc;omega
    obtain ⟨m,hm⟩:∃ m,m=e.ms[k]:=⟨_,rfl⟩
    have hg:=getD_map (f:=matchAV) (l:=e.ms) (k:=k) (x:=m) (by rw [List.getElem?_eq_getElem hk',hm])
    have e5:IntKind.i64.wrap ((k:Int)+1)=((k+1:Nat):Int):=by rw [wrap_i64]<;>omega
    have tm:=teq_noMatch (m:=m)
    have et:e.ms.take (k+1)=e.ms.take k++[m]:=by rw [hm,List.take_succ_eq_append_getElem hk']
    have eB:(true&&(e.ms.take (k+1)).all rgM)=((true&&(e.ms.take k).all rgM)&&rgM m):=by rw [et,List.all_append,List.all_cons,List.all_nil,Bool.and_true,Bool.and_assoc]
    obtain ⟨Bn,hBn⟩:∃ Bn,(true&&(e.ms.take (k+1)).all rgM)=Bn:=⟨_,rfl⟩
    rw [hBn] at eB
    generalize (true&&(e.ms.take k).all rgM)=Bk at *
    have fin:∀ (X:List AV),True:=fun _=>trivial
    cases Bk
    · rw [Bool.false_and] at eB
      simp only [go_sem,Int.toNat_natCast,ybb,hg,matchAV,matchC,vc,yal,yak,e5]
      (repeat with_reducible refine And.intro (by first | assumption | decide | omega) ?_)
      refine ⟨k+1,by omega,by omega,by (try simp only [zkm]);omega,by repeat (first | exact AHeap.Le.refl _ | refine AHeap.Le.push ?_ _),hcl,?_,?_⟩
      · simp [ltF,zmn,zmo,lt_map lt_match]
      · simp [subW,wk2,wk1,wkM,Fr.get,hBn,eB]
    · rw [Bool.true_and] at eB
      cases hp1:rg m.pfx 1
      · have er:rgM m=false:=by unfold rgM;rw [hp1];rfl
        rw [er] at eB
        simp only [go_sem,Int.toNat_natCast,ybb,hg,matchAV,matchC,vc,yal,yak,e5,p_xWithin,rg1,hp1]
        (repeat with_reducible refine And.intro (by first | assumption | decide | omega) ?_)
        refine ⟨k+1,by omega,by omega,by (try simp only [zkm]);omega,by repeat (first | exact AHeap.Le.refl _ | refine AHeap.Le.push ?_ _),hcl,?_,?_⟩
        · simp [ltF,zmn,zmo,lt_map lt_match]
        · simp [subW,wk2,wk1,wkM,Fr.get,hBn,eB]
      · cases hpr:m.present
        · have er:rgM m=decide (m=noMatch):=by unfold rgM;rw [hp1,hpr];simp
          rw [er] at eB
          generalize decide (m=noMatch)=D at *
          simp only [matchC,vc,yal,yak,hpr] at tm
          simp only [go_sem,Int.toNat_natCast,ybb,hg,matchAV,matchC,vc,yal,yak,e5,p_xWithin,rg1,hp1,hpr,tm,eqg_matchV,Bool.bne_false]
          (repeat with_reducible refine And.intro (by first | assumption | decide | omega) ?_)
          refine ⟨k+1,by omega,by omega,by (try simp only [zkm]);omega,by repeat (first | exact AHeap.Le.refl _ | refine AHeap.Le.push ?_ _),hcl,?_,?_⟩
          · simp [ltF,zmn,zmo,lt_map lt_match]
          · simp [subW,wk2,wk1,wkM,Fr.get,hBn,eB]
        · have er:rgM m=true:=by unfold rgM;rw [hp1,hpr];rfl
          rw [er] at eB
          simp only [go_sem,Int.toNat_natCast,ybb,hg,matchAV,matchC,vc,yal,yak,e5,p_xWithin,rg1,hp1,hpr]
          (repeat with_reducible refine And.intro (by first | assumption | decide | omega) ?_)
          refine ⟨k+1,by omega,by omega,by (try simp only [zkm]);omega,by repeat (first | exact AHeap.Le.refl _ | refine AHeap.Le.push ?_ _),hcl,?_,?_⟩
          · simp [ltF,zmn,zmo,lt_map lt_match]
          · simp [subW,wk2,wk1,wkM,Fr.get,hBn,eB]
  · have hk':k=e.ms.length:=by simp at hc;omega
    subst hk'
    rw [List.take_length]
    simp only [go_sem]
    simp (disch:=first | assumption | omega | (simp;done) | (simp;omega) | (simp only [bt,and_true];first | done | omega | (simp;done))) [↓zlw,beq,ybc,ybd,ybe,endOk,wk,wk2,wk1,wkM,wkL,wkLL,ybf,hcl]
end Go.AL


open Go Go.AL Go.Proofs
namespace Go.AL
set_option linter.all false
set_option maxRecDepth 10000

def p_rSameR:List AV→AHeap→(AV→Prop)→Prop
  | [.agg l,.agg k],_,K=>∃ r s:SReq,(l=reqC r∧k=reqC s∧RC r∧RC s)∧K (.bool (eqR r s))
  | _,_,_=>False
set_option maxHeartbeats 4000000 in
theorem ok_rSameR:EntOk Tryz.prog 19 (Ent.pure p_rSameR):=by
  refine EntOk.pure fun args H K h=>?_
  unfold p_rSameR at h
  split at h
  rotate_left
  · exact h.elim
  rename_i l k
  obtain ⟨r,s,⟨rfl,rfl,hr,hs⟩,hK⟩:=h
  refine ⟨_,hK,?_⟩
  clear hK
  obtain ⟨R,hR⟩:∃ R,eqR r s=R:=⟨_,rfl⟩
  rw [hR]
  unfold eqR at hR
  have hul:=hr.ul
  have hul2:=hs.ul
  cases h0:(r.kind==s.kind)
  · simp only [h0,Bool.false_and,Bool.and_false,Bool.true_and] at hR
    subst hR
    have n0:(r.kind != s.kind)=true:=by unfold bne;rw [h0];rfl
    refine ACalls.of_aw (Ω:=[(55,Ent.pure p_rSame10)]) (T:=assoc [(6,[[],[],[],[],[],[],[],[],[],[],[],[],[],[],[],[],[],[],[1,3,7,11,13,17]])]) mixed (TblOk.cons ok_rSame10 TblOk.nil) Tryz.func19 (by kernel_rfl) (by rfl) (rs:=[.tmp 4]) (by rfl) (by kernel_rfl) (by simp only [Tryz.ntmps19,yaz,yba];decide) (Nat.le_refl _) fun hcl hlt=>?_
    change aw _ _ _ (KI Tryz.prog [(55,Ent.pure p_rSame10)] (aEnd Tryz.prog [.tmp 4] H.nx _ _ (assoc [(6,[[],[],[],[],[],[],[],[],[],[],[],[],[],[],[],[],[],[],[1,3,7,11,13,17]])])) []) _ _
    clear hlt
    simp only [List.append_eq,yal,yak]
    simp only [go_sem,byq,reqC,val_eq,val_eq',teq_valV,eqg_valV,Bool.bne_false,Bool.bne_true,ybb,n0]
    simp (disch:=first | assumption | omega | (simp;done) | (simp;omega) | (simp only [bt,and_true];first | done | omega | (simp;done))) [↓zlw,beq,ybc,ybd,ybe,endOk,wk,wk2,wk1,wkM,wkL,wkLL,ybf,hcl]
    first | done | repeat (first | exact AHeap.Le.refl _ | refine AHeap.Le.push ?_ _)
  have n0:(r.kind != s.kind)=false:=by unfold bne;rw [h0];rfl
  cases h1:(r.role==s.role)
  · simp only [h0,h1,Bool.false_and,Bool.and_false,Bool.true_and] at hR
    subst hR
    have n1:(r.role != s.role)=true:=by unfold bne;rw [h1];rfl
    refine ACalls.of_aw (Ω:=[(55,Ent.pure p_rSame10)]) (T:=assoc [(6,[[],[],[],[],[],[],[],[],[],[],[],[],[],[],[],[],[],[],[1,3,7,11,13,17]])]) mixed (TblOk.cons ok_rSame10 TblOk.nil) Tryz.func19 (by kernel_rfl) (by rfl) (rs:=[.tmp 4]) (by rfl) (by kernel_rfl) (by simp only [Tryz.ntmps19,yaz,yba];decide) (Nat.le_refl _) fun hcl hlt=>?_
    change aw _ _ _ (KI Tryz.prog [(55,Ent.pure p_rSame10)] (aEnd Tryz.prog [.tmp 4] H.nx _ _ (assoc [(6,[[],[],[],[],[],[],[],[],[],[],[],[],[],[],[],[],[],[],[1,3,7,11,13,17]])])) []) _ _
    clear hlt
    simp only [List.append_eq,yal,yak]
    simp only [go_sem,byq,reqC,val_eq,val_eq',teq_valV,eqg_valV,Bool.bne_false,Bool.bne_true,ybb,n0,n1]
    simp (disch:=first | assumption | omega | (simp;done) | (simp;omega) | (simp only [bt,and_true];first | done | omega | (simp;done))) [↓zlw,beq,ybc,ybd,ybe,endOk,wk,wk2,wk1,wkM,wkL,wkLL,ybf,hcl]
    first | done | repeat (first | exact AHeap.Le.refl _ | refine AHeap.Le.push ?_ _)
  have n1:(r.role != s.role)=false:=by unfold bne;rw [h1];rfl
  cases h2:(decide (r.el=s.el))
  · simp only [h0,h1,h2,Bool.false_and,Bool.and_false,Bool.true_and] at hR
    subst hR
    refine ACalls.of_aw (Ω:=[(55,Ent.pure p_rSame10)]) (T:=assoc [(6,[[],[],[],[],[],[],[],[],[],[],[],[],[],[],[],[],[],[],[1,3,7,11,13,17]])]) mixed (TblOk.cons ok_rSame10 TblOk.nil) Tryz.func19 (by kernel_rfl) (by rfl) (rs:=[.tmp 4]) (by rfl) (by kernel_rfl) (by simp only [Tryz.ntmps19,yaz,yba];decide) (Nat.le_refl _) fun hcl hlt=>?_
    change aw _ _ _ (KI Tryz.prog [(55,Ent.pure p_rSame10)] (aEnd Tryz.prog [.tmp 4] H.nx _ _ (assoc [(6,[[],[],[],[],[],[],[],[],[],[],[],[],[],[],[],[],[],[],[1,3,7,11,13,17]])])) []) _ _
    clear hlt
    simp only [List.append_eq,yal,yak]
    simp only [go_sem,byq,reqC,val_eq,val_eq',teq_valV,eqg_valV,Bool.bne_false,Bool.bne_true,ybb,n0,n1,h2]
    simp (disch:=first | assumption | omega | (simp;done) | (simp;omega) | (simp only [bt,and_true];first | done | omega | (simp;done))) [↓zlw,beq,ybc,ybd,ybe,endOk,wk,wk2,wk1,wkM,wkL,wkLL,ybf,hcl]
    first | done | repeat (first | exact AHeap.Le.refl _ | refine AHeap.Le.push ?_ _)
  cases h3:(r.table==s.table)
  · simp only [h0,h1,h2,h3,Bool.false_and,Bool.and_false,Bool.true_and] at hR
    subst hR
    have n3:(r.table != s.table)=true:=by unfold bne;rw [h3];rfl
    refine ACalls.of_aw (Ω:=[(55,Ent.pure p_rSame10)]) (T:=assoc [(6,[[],[],[],[],[],[],[],[],[],[],[],[],[],[],[],[],[],[],[1,3,7,11,13,17]])]) mixed (TblOk.cons ok_rSame10 TblOk.nil) Tryz.func19 (by kernel_rfl) (by rfl) (rs:=[.tmp 4]) (by rfl) (by kernel_rfl) (by simp only [Tryz.ntmps19,yaz,yba];decide) (Nat.le_refl _) fun hcl hlt=>?_
    change aw _ _ _ (KI Tryz.prog [(55,Ent.pure p_rSame10)] (aEnd Tryz.prog [.tmp 4] H.nx _ _ (assoc [(6,[[],[],[],[],[],[],[],[],[],[],[],[],[],[],[],[],[],[],[1,3,7,11,13,17]])])) []) _ _
    clear hlt
    simp only [List.append_eq,yal,yak]
    simp only [go_sem,byq,reqC,val_eq,val_eq',teq_valV,eqg_valV,Bool.bne_false,Bool.bne_true,ybb,n0,n1,h2,n3]
    simp (disch:=first | assumption | omega | (simp;done) | (simp;omega) | (simp only [bt,and_true];first | done | omega | (simp;done))) [↓zlw,beq,ybc,ybd,ybe,endOk,wk,wk2,wk1,wkM,wkL,wkLL,ybf,hcl]
    first | done | repeat (first | exact AHeap.Le.refl _ | refine AHeap.Le.push ?_ _)
  have n3:(r.table != s.table)=false:=by unfold bne;rw [h3];rfl
  cases h4:(r.frm==s.frm)
  · simp only [h0,h1,h2,h3,h4,Bool.false_and,Bool.and_false,Bool.true_and] at hR
    subst hR
    have n4:(r.frm != s.frm)=true:=by unfold bne;rw [h4];rfl
    refine ACalls.of_aw (Ω:=[(55,Ent.pure p_rSame10)]) (T:=assoc [(6,[[],[],[],[],[],[],[],[],[],[],[],[],[],[],[],[],[],[],[1,3,7,11,13,17]])]) mixed (TblOk.cons ok_rSame10 TblOk.nil) Tryz.func19 (by kernel_rfl) (by rfl) (rs:=[.tmp 4]) (by rfl) (by kernel_rfl) (by simp only [Tryz.ntmps19,yaz,yba];decide) (Nat.le_refl _) fun hcl hlt=>?_
    change aw _ _ _ (KI Tryz.prog [(55,Ent.pure p_rSame10)] (aEnd Tryz.prog [.tmp 4] H.nx _ _ (assoc [(6,[[],[],[],[],[],[],[],[],[],[],[],[],[],[],[],[],[],[],[1,3,7,11,13,17]])])) []) _ _
    clear hlt
    simp only [List.append_eq,yal,yak]
    simp only [go_sem,byq,reqC,val_eq,val_eq',teq_valV,eqg_valV,Bool.bne_false,Bool.bne_true,ybb,n0,n1,h2,n3,n4]
    simp (disch:=first | assumption | omega | (simp;done) | (simp;omega) | (simp only [bt,and_true];first | done | omega | (simp;done))) [↓zlw,beq,ybc,ybd,ybe,endOk,wk,wk2,wk1,wkM,wkL,wkLL,ybf,hcl]
    first | done | repeat (first | exact AHeap.Le.refl _ | refine AHeap.Le.push ?_ _)
  have n4:(r.frm != s.frm)=false:=by unfold bne;rw [h4];rfl
  cases h5:(r.count==s.count)
  · simp only [h0,h1,h2,h3,h4,h5,Bool.false_and,Bool.and_false,Bool.true_and] at hR
    subst hR
    have n5:(r.count != s.count)=true:=by unfold bne;rw [h5];rfl
    refine ACalls.of_aw (Ω:=[(55,Ent.pure p_rSame10)]) (T:=assoc [(6,[[],[],[],[],[],[],[],[],[],[],[],[],[],[],[],[],[],[],[1,3,7,11,13,17]])]) mixed (TblOk.cons ok_rSame10 TblOk.nil) Tryz.func19 (by kernel_rfl) (by rfl) (rs:=[.tmp 4]) (by rfl) (by kernel_rfl) (by simp only [Tryz.ntmps19,yaz,yba];decide) (Nat.le_refl _) fun hcl hlt=>?_
    change aw _ _ _ (KI Tryz.prog [(55,Ent.pure p_rSame10)] (aEnd Tryz.prog [.tmp 4] H.nx _ _ (assoc [(6,[[],[],[],[],[],[],[],[],[],[],[],[],[],[],[],[],[],[],[1,3,7,11,13,17]])])) []) _ _
    clear hlt
    simp only [List.append_eq,yal,yak]
    simp only [go_sem,byq,reqC,val_eq,val_eq',teq_valV,eqg_valV,Bool.bne_false,Bool.bne_true,ybb,n0,n1,h2,n3,n4,n5]
    simp (disch:=first | assumption | omega | (simp;done) | (simp;omega) | (simp only [bt,and_true];first | done | omega | (simp;done))) [↓zlw,beq,ybc,ybd,ybe,endOk,wk,wk2,wk1,wkM,wkL,wkLL,ybf,hcl]
    first | done | repeat (first | exact AHeap.Le.refl _ | refine AHeap.Le.push ?_ _)
  have n5:(r.count != s.count)=false:=by unfold bne;rw [h5];rfl
  cases h6:(r.port==s.port)
  · simp only [h0,h1,h2,h3,h4,h5,h6,Bool.false_and,Bool.and_false,Bool.true_and] at hR
    subst hR
    have n6:(r.port != s.port)=true:=by unfold bne;rw [h6];rfl
    refine ACalls.of_aw (Ω:=[(55,Ent.pure p_rSame10)]) (T:=assoc [(6,[[],[],[],[],[],[],[],[],[],[],[],[],[],[],[],[],[],[],[1,3,7,11,13,17]])]) mixed (TblOk.cons ok_rSame10 TblOk.nil) Tryz.func19 (by kernel_rfl) (by rfl) (rs:=[.tmp 4]) (by rfl) (by kernel_rfl) (by simp only [Tryz.ntmps19,yaz,yba];decide) (Nat.le_refl _) fun hcl hlt=>?_
    change aw _ _ _ (KI Tryz.prog [(55,Ent.pure p_rSame10)] (aEnd Tryz.prog [.tmp 4] H.nx _ _ (assoc [(6,[[],[],[],[],[],[],[],[],[],[],[],[],[],[],[],[],[],[],[1,3,7,11,13,17]])])) []) _ _
    clear hlt
    simp only [List.append_eq,yal,yak]
    simp only [go_sem,byq,reqC,val_eq,val_eq',teq_valV,eqg_valV,Bool.bne_false,Bool.bne_true,ybb,n0,n1,h2,n3,n4,n5,n6]
    simp (disch:=first | assumption | omega | (simp;done) | (simp;omega) | (simp only [bt,and_true];first | done | omega | (simp;done))) [↓zlw,beq,ybc,ybd,ybe,endOk,wk,wk2,wk1,wkM,wkL,wkLL,ybf,hcl]
    first | done | repeat (first | exact AHeap.Le.refl _ | refine AHeap.Le.push ?_ _)
  have n6:(r.port != s.port)=false:=by unfold bne;rw [h6];rfl
  cases h7:(r.data==s.data)
  · simp only [h0,h1,h2,h3,h4,h5,h6,h7,Bool.false_and,Bool.and_false,Bool.true_and] at hR
    subst hR
    refine ACalls.of_aw (Ω:=[(55,Ent.pure p_rSame10)]) (T:=assoc [(6,[[],[],[],[],[],[],[],[],[],[],[],[],[],[],[],[],[],[],[1,3,7,11,13,17]])]) mixed (TblOk.cons ok_rSame10 TblOk.nil) Tryz.func19 (by kernel_rfl) (by rfl) (rs:=[.tmp 4]) (by rfl) (by kernel_rfl) (by simp only [Tryz.ntmps19,yaz,yba];decide) (Nat.le_refl _) fun hcl hlt=>?_
    change aw _ _ _ (KI Tryz.prog [(55,Ent.pure p_rSame10)] (aEnd Tryz.prog [.tmp 4] H.nx _ _ (assoc [(6,[[],[],[],[],[],[],[],[],[],[],[],[],[],[],[],[],[],[],[1,3,7,11,13,17]])])) []) _ _
    clear hlt
    simp only [List.append_eq,yal,yak]
    simp only [go_sem,byq,reqC,val_eq,val_eq',teq_valV,eqg_valV,Bool.bne_false,Bool.bne_true,ybb,n0,n1,h2,n3,n4,n5,n6,h7]
    simp (disch:=first | assumption | omega | (simp;done) | (simp;omega) | (simp only [bt,and_true];first | done | omega | (simp;done))) [↓zlw,beq,ybc,ybd,ybe,endOk,wk,wk2,wk1,wkM,wkL,wkLL,ybf,hcl]
    first | done | repeat (first | exact AHeap.Le.refl _ | refine AHeap.Le.push ?_ _)
  simp only [h0,h1,h2,h3,h4,h5,h6,h7,Bool.true_and,Bool.and_true] at hR
  by_cases hlen:r.ups.length=s.ups.length
  case neg =>
    rw [eqL_len hlen] at hR
    subst hR
    have n8:((r.ups.length:Int) != (s.ups.length:Int))=true:=by rw [bne_iff_ne];omega
    refine ACalls.of_aw (Ω:=[(55,Ent.pure p_rSame10)]) (T:=assoc [(6,[[],[],[],[],[],[],[],[],[],[],[],[],[],[],[],[],[],[],[1,3,7,11,13,17]])]) mixed (TblOk.cons ok_rSame10 TblOk.nil) Tryz.func19 (by kernel_rfl) (by rfl) (rs:=[.tmp 4]) (by rfl) (by kernel_rfl) (by simp only [Tryz.ntmps19,yaz,yba];decide) (Nat.le_refl _) fun hcl hlt=>?_
    change aw _ _ _ (KI Tryz.prog [(55,Ent.pure p_rSame10)] (aEnd Tryz.prog [.tmp 4] H.nx _ _ (assoc [(6,[[],[],[],[],[],[],[],[],[],[],[],[],[],[],[],[],[],[],[1,3,7,11,13,17]])])) []) _ _
    clear hlt
    simp only [List.append_eq,yal,yak]
    simp only [go_sem,byq,reqC,val_eq,val_eq',teq_valV,eqg_valV,Bool.bne_false,Bool.bne_true,ybb,n0,n1,h2,n3,n4,n5,n6,h7,n8]
    simp (disch:=first | assumption | omega | (simp;done) | (simp;omega) | (simp only [bt,and_true];first | done | omega | (simp;done))) [↓zlw,beq,ybc,ybd,ybe,endOk,wk,wk2,wk1,wkM,wkL,wkLL,ybf,hcl]
    first | done | repeat (first | exact AHeap.Le.refl _ | refine AHeap.Le.push ?_ _)
  have n8:((r.ups.length:Int) != (s.ups.length:Int))=false:=by rw [hlen];simp
  refine ACalls.of_aw (Ω:=[(55,Ent.pure p_rSame10)]) (T:=assoc [(6,[[],[],[],[],[],[],[],[],[],[],[],[],[],[],[],[],[],[],[1,3,7,11,13,17]])]) mixed (TblOk.cons ok_rSame10 TblOk.nil) Tryz.func19 (by kernel_rfl) (by rfl) (rs:=[.tmp 4]) (by rfl) (by kernel_rfl) (by simp only [Tryz.ntmps19,yaz,yba];decide) (Nat.le_refl _) fun hcl hlt=>?_
  change aw _ _ _ (KI Tryz.prog [(55,Ent.pure p_rSame10)] (aEnd Tryz.prog [.tmp 4] H.nx _ _ (assoc [(6,[[],[],[],[],[],[],[],[],[],[],[],[],[],[],[],[],[],[],[1,3,7,11,13,17]])])) []) _ _
  clear hlt
  simp only [List.append_eq,yal,yak]
  simp only [go_sem,byq,reqC,val_eq,val_eq',teq_valV,eqg_valV,Bool.bne_false,Bool.bne_true,ybb,n0,n1,h2,n3,n4,n5,n6,h7,n8]
  obtain ⟨HL,hHL⟩:∃ HL,HL=(H.push (.cells (reqC r))).push (.cells (reqC s)):=⟨_,rfl⟩
  have hcB:HL.Closed:=by
    rw [hHL]
    refine closed_cells (closed_cells hcl ?_) ?_
    · have:=lt_req (n:=H.nx+1) r;simp only [reqAV,zmz] at this;exact this
    · have:=lt_req (n:=H.nx+1+1) s;simp only [reqAV,zmz] at this;exact this
  refine loop_introW (A:=Nat) (fun k=>[(3,.ptr (H.nx+1) 0),(73,.slice .any 6 (r.ups.map updAV)),(74,.int .i64 (r.ups.length:Int)),(75,.int .i64 (k:Int))]) (fun _=>HL) (fun k=>k≤r.ups.length∧eqL eqU (r.ups.drop k) (s.ups.drop k)=R) (fun k=>r.ups.length - k) 0 ⟨by omega,hR⟩ ?_ fun k hk=>?_
  · rw [hHL]
    refine ⟨by simp only [zjy,zkd,zkm];omega,AHeap.Le.refl _,by rw [← hHL];exact hcB,?_,?_⟩
    · simp [ltF,zmn,zmv,zkm,lt_map lt_upd]
    · simp [subW,wk2,wk1,wkM,Fr.get]
  obtain ⟨hk,hq⟩:=hk
  simp only [go_sem]
  refine cond_split (fun hc=>?_) (fun hc=>?_)
  · have hk':k<r.ups.length:=by simp at hc;omega
    have hk2:k<s.ups.length:=by omega
    obtain ⟨x,hx⟩:∃ x,x=r.ups[k]:=⟨_,rfl⟩
    obtain ⟨y,hy⟩:∃ y,y=s.ups[k]:=⟨_,rfl⟩
    have hd:r.ups.drop k=x::r.ups.drop (k+1):=by rw [hx];exact List.drop_eq_getElem_cons hk'
    have hd2:s.ups.drop k=y::s.ups.drop (k+1):=by rw [hy];exact List.drop_eq_getElem_cons hk2
    have hg:=getD_map (f:=updAV) (l:=r.ups) (k:=k) (x:=x) (by rw [List.getElem?_eq_getElem hk',hx])
    have hg2:=getD_map (f:=updAV) (l:=s.ups) (k:=k) (x:=y) (by rw [List.getElem?_eq_getElem hk2,hy])
    have e5:IntKind.i64.wrap ((k:Int)+1)=((k+1:Nat):Int):=by rw [wrap_i64]<;>omega
    have hox:=hr.uo x (by rw [hx];exact List.getElem_mem hk')
    have hoy:=hs.uo y (by rw [hy];exact List.getElem_mem hk2)
    rw [hd,hd2] at hq
    unfold eqL at hq
    obtain ⟨a,e⟩:=x
    obtain ⟨b,f⟩:=y
    dsimp only at hox hoy
    have hab2:(k:Int)<(s.ups.length:Int):=by omega
    have eu:eqU (a,e) (b,f)=((a==b)&&eqE e f):=rfl
    rw [eu] at hq
    rw [hHL]
    cases hab:(a==b)
    · have nab:(a != b)=true:=by unfold bne;rw [hab];rfl
      simp only [hab,Bool.false_and] at hq
      subst hq
      simp only [go_sem,Int.toNat_natCast,ybb,reqC,hg,hg2,updAV,updC,entryC,nab]
      (repeat with_reducible refine And.intro (by first | assumption | decide | omega) ?_)
      simp (disch:=first | assumption | omega | (simp;done) | (simp;omega) | (simp only [bt,and_true];first | done | omega | (simp;done))) [↓zlw,beq,ybc,ybd,ybe,endOk,wk,wk2,wk1,wkM,wkL,wkLL,ybf,hcl]
      first | done | repeat (first | exact AHeap.Le.refl _ | refine AHeap.Le.push ?_ _)
    · have nab:(a != b)=false:=by unfold bne;rw [hab];rfl
      simp only [hab,Bool.true_and] at hq
      simp only [go_sem,Int.toNat_natCast,ybb,reqC,hg,hg2,updAV,updC,entryC,nab,p_rSame10]
      (repeat with_reducible refine And.intro (by first | assumption | decide | omega) ?_)
      refine ⟨e,f,⟨rfl,rfl,hox,hoy⟩,?_⟩
      rw [show (cmpE e f==0)=eqE e f from rfl]
      try simp only [go_sem]
      refine cond_split (fun hb=>?_) (fun hb=>?_)
      · have hb':eqE e f=false:=by simpa using hb
        simp only [hb',Bool.false_and] at hq
        subst hq
        try simp only [go_sem]
        simp (disch:=first | assumption | omega | (simp;done) | (simp;omega) | (simp only [bt,and_true];first | done | omega | (simp;done))) [↓zlw,beq,ybc,ybd,ybe,endOk,wk,wk2,wk1,wkM,wkL,wkLL,ybf,hcl]
        first | done | repeat (first | exact AHeap.Le.refl _ | refine AHeap.Le.push ?_ _)
      · have hb':eqE e f=true:=by simpa using hb
        simp only [hb',Bool.true_and] at hq
        simp only [go_sem,e5]
        refine ⟨k+1,⟨by omega,hq⟩,by omega,by (try simp only [zkm]);omega,by (try simp only [reqC]);repeat (first | exact AHeap.Le.refl _ | refine AHeap.Le.push ?_ _),by rw [hHL] at hcB;exact hcB,?_,?_⟩
        · simp [ltF,zmn,zmv,zkm,lt_map lt_upd]
        · simp [subW,wk2,wk1,wkM,Fr.get]
  · have hk':k=r.ups.length:=by simp at hc;omega
    subst hk'
    rw [List.drop_length,hlen,List.drop_length] at hq
    rw [← hq,hHL]
    simp only [go_sem,eqL,reqC]
    simp (disch:=first | assumption | omega | (simp;done) | (simp;omega) | (simp only [bt,and_true];first | done | omega | (simp;done))) [↓zlw,beq,ybc,ybd,ybe,endOk,wk,wk2,wk1,wkM,wkL,wkLL,ybf,hcl]
    first | done | repeat (first | exact AHeap.Le.refl _ | refine AHeap.Le.push ?_ _)
/-- what the reference's used returns -/
def valid6 (r:SReq):Bool:=decide (1≤r.kind∧r.kind≤6)
def p_xUsed:List AV→AHeap→(AV→Prop)→Prop
  | [.agg l],_,K=>∃ r:SReq,l=reqC r∧K (.tup [reqAV (if valid6 r then usedR r else { zReq with kind:=r.kind }),.bool (valid6 r)])
  | _,_,_=>False
set_option maxHeartbeats 4000000 in
theorem ok_xUsed:EntOk Tryz.prog 40 (Ent.pure p_xUsed):=by
  refine EntOk.pure fun args H K h=>?_
  unfold p_xUsed at h
  split at h
  rotate_left
  · exact h.elim
  rename_i l
  obtain ⟨r,rfl,hK⟩:=h
  refine ⟨_,hK,?_⟩
  clear hK
  by_cases k1:r.kind=1
  · have hv:valid6 r=true:=decide_eq_true (by omega)
    have lr:=lt_req (n:=H.nx) (usedR r)
    have hx:reqAV (usedR r)=.agg [.int .i64 1,.int .i64 r.role,.int .u64 ((r.el/2^64:Nat):Int),.int .u64 ((r.el % 2^64:Nat):Int),.slice .any 6 [],.int .i64 0,.int .i64 0,.int .i64 0,.int .i64 0,.slice .any 1 []]:=by
      unfold usedR;rw [k1]
      simp only [reqAV,reqC,useR,zReq,Int.reduceEq,if_true,if_false,yaf,zkt,Nat.zero_div,Nat.zero_mod,Int.natCast_zero]
    rw [hv,if_pos rfl]
    rw [hx] at lr ⊢
    refine ACalls.of_aw (Ω:=[]) (T:=assoc [(5,[[],[],[],[],[],[1],[],[1,3]]),(8,[[],[],[],[],[],[],[],[1],[],[1,3],[],[1,3,5]]),(10,[[],[],[],[],[],[1],[],[1,3]]),(12,[[],[],[],[],[],[],[],[1],[],[1,3],[],[1,3,5]]),(14,[[],[],[],[],[],[1],[],[1,3]])]) mixed TblOk.nil Tryz.func40 (by kernel_rfl) (by rfl) (rs:=[.cell 2 28,.tmp 3]) (by rfl) (by kernel_rfl) (by simp only [Tryz.ntmps40,yaz,yba];decide) (Nat.le_refl _) fun hcl hlt=>?_
    change aw _ _ _ (KI Tryz.prog [] (aEnd Tryz.prog [.cell 2 28,.tmp 3] H.nx _ _ (assoc [(5,[[],[],[],[],[],[1],[],[1,3]]),(8,[[],[],[],[],[],[],[],[1],[],[1,3],[],[1,3,5]]),(10,[[],[],[],[],[],[1],[],[1,3]]),(12,[[],[],[],[],[],[],[],[1],[],[1,3],[],[1,3,5]]),(14,[[],[],[],[],[],[1],[],[1,3]])])) []) _ _
    clear hlt
    simp only [go_sem,reqC,k1,Int.reduceBEq]
    refine ⟨?_,by repeat (first | exact AHeap.Le.refl _ | refine AHeap.Le.push ?_ _),hcl,?_⟩
    · simp [wk,wk2,wk1,wkL,wkLL,wkM]
    · simp only [zna,znc,znd,zmo,and_true];exact lr
  by_cases k2:r.kind=2
  · have hv:valid6 r=true:=decide_eq_true (by omega)
    have lr:=lt_req (n:=H.nx) (usedR r)
    have hx:reqAV (usedR r)=.agg [.int .i64 2,.int .i64 0,.int .u64 0,.int .u64 0,.slice .any 6 [],.int .i64 0,.int .i64 0,.int .i64 0,.int .i64 0,.slice .any 1 []]:=by
      unfold usedR;rw [k2]
      simp only [reqAV,reqC,useR,zReq,Int.reduceEq,if_true,if_false,yaf,zkt,Nat.zero_div,Nat.zero_mod,Int.natCast_zero]
    rw [hv,if_pos rfl]
    rw [hx] at lr ⊢
    refine ACalls.of_aw (Ω:=[]) (T:=assoc [(5,[[],[],[],[],[],[1],[],[1,3]]),(8,[[],[],[],[],[],[],[],[1],[],[1,3],[],[1,3,5]]),(10,[[],[],[],[],[],[1],[],[1,3]]),(12,[[],[],[],[],[],[],[],[1],[],[1,3],[],[1,3,5]]),(14,[[],[],[],[],[],[1],[],[1,3]])]) mixed TblOk.nil Tryz.func40 (by kernel_rfl) (by rfl) (rs:=[.cell 2 28,.tmp 3]) (by rfl) (by kernel_rfl) (by simp only [Tryz.ntmps40,yaz,yba];decide) (Nat.le_refl _) fun hcl hlt=>?_
    change aw _ _ _ (KI Tryz.prog [] (aEnd Tryz.prog [.cell 2 28,.tmp 3] H.nx _ _ (assoc [(5,[[],[],[],[],[],[1],[],[1,3]]),(8,[[],[],[],[],[],[],[],[1],[],[1,3],[],[1,3,5]]),(10,[[],[],[],[],[],[1],[],[1,3]]),(12,[[],[],[],[],[],[],[],[1],[],[1,3],[],[1,3,5]]),(14,[[],[],[],[],[],[1],[],[1,3]])])) []) _ _
    clear hlt
    simp only [go_sem,reqC,k2,Int.reduceBEq]
    refine ⟨?_,by repeat (first | exact AHeap.Le.refl _ | refine AHeap.Le.push ?_ _),hcl,?_⟩
    · simp [wk,wk2,wk1,wkL,wkLL,wkM]
    · simp only [zna,znc,znd,zmo,and_true];exact lr
  by_cases k3:r.kind=3
  · have hv:valid6 r=true:=decide_eq_true (by omega)
    have lr:=lt_req (n:=H.nx) (usedR r)
    have hx:reqAV (usedR r)=.agg [.int .i64 3,.int .i64 r.role,.int .u64 ((r.el/2^64:Nat):Int),.int .u64 ((r.el % 2^64:Nat):Int),.slice .any 6 (r.ups.map updAV),.int .i64 0,.int .i64 0,.int .i64 0,.int .i64 0,.slice .any 1 []]:=by
      unfold usedR;rw [k3]
      simp only [reqAV,reqC,useR,zReq,Int.reduceEq,if_true,if_false,yaf,zkt,Nat.zero_div,Nat.zero_mod,Int.natCast_zero]
    rw [hv,if_pos rfl]
    rw [hx] at lr ⊢
    refine ACalls.of_aw (Ω:=[]) (T:=assoc [(5,[[],[],[],[],[],[1],[],[1,3]]),(8,[[],[],[],[],[],[],[],[1],[],[1,3],[],[1,3,5]]),(10,[[],[],[],[],[],[1],[],[1,3]]),(12,[[],[],[],[],[],[],[],[1],[],[1,3],[],[1,3,5]]),(14,[[],[],[],[],[],[1],[],[1,3]])]) mixed TblOk.nil Tryz.func40 (by kernel_rfl) (by rfl) (rs:=[.cell 2 28,.tmp 3]) (by rfl) (by kernel_rfl) (by simp only [Tryz.ntmps40,yaz,yba];decide) (Nat.le_refl _) fun hcl hlt=>?_
    change aw _ _ _ (KI Tryz.prog [] (aEnd Tryz.prog [.cell 2 28,.tmp 3] H.nx _ _ (assoc [(5,[[],[],[],[],[],[1],[],[1,3]]),(8,[[],[],[],[],[],[],[],[1],[],[1,3],[],[1,3,5]]),(10,[[],[],[],[],[],[1],[],[1,3]]),(12,[[],[],[],[],[],[],[],[1],[],[1,3],[],[1,3,5]]),(14,[[],[],[],[],[],[1],[],[1,3]])])) []) _ _
    clear hlt
    simp only [go_sem,reqC,k3,Int.reduceBEq]
    refine ⟨?_,by repeat (first | exact AHeap.Le.refl _ | refine AHeap.Le.push ?_ _),hcl,?_⟩
    · simp [wk,wk2,wk1,wkL,wkLL,wkM]
    · simp only [zna,znc,znd,zmo,and_true];exact lr
  by_cases k4:r.kind=4
  · have hv:valid6 r=true:=decide_eq_true (by omega)
    have lr:=lt_req (n:=H.nx) (usedR r)
    have hx:reqAV (usedR r)=.agg [.int .i64 4,.int .i64 r.role,.int .u64 0,.int .u64 0,.slice .any 6 [],.int .i64 r.table,.int .i64 0,.int .i64 0,.int .i64 0,.slice .any 1 []]:=by
      unfold usedR;rw [k4]
      simp only [reqAV,reqC,useR,zReq,Int.reduceEq,if_true,if_false,yaf,zkt,Nat.zero_div,Nat.zero_mod,Int.natCast_zero]
    rw [hv,if_pos rfl]
    rw [hx] at lr ⊢
    refine ACalls.of_aw (Ω:=[]) (T:=assoc [(5,[[],[],[],[],[],[1],[],[1,3]]),(8,[[],[],[],[],[],[],[],[1],[],[1,3],[],[1,3,5]]),(10,[[],[],[],[],[],[1],[],[1,3]]),(12,[[],[],[],[],[],[],[],[1],[],[1,3],[],[1,3,5]]),(14,[[],[],[],[],[],[1],[],[1,3]])]) mixed TblOk.nil Tryz.func40 (by kernel_rfl) (by rfl) (rs:=[.cell 2 28,.tmp 3]) (by rfl) (by kernel_rfl) (by simp only [Tryz.ntmps40,yaz,yba];decide) (Nat.le_refl _) fun hcl hlt=>?_
    change aw _ _ _ (KI Tryz.prog [] (aEnd Tryz.prog [.cell 2 28,.tmp 3] H.nx _ _ (assoc [(5,[[],[],[],[],[],[1],[],[1,3]]),(8,[[],[],[],[],[],[],[],[1],[],[1,3],[],[1,3,5]]),(10,[[],[],[],[],[],[1],[],[1,3]]),(12,[[],[],[],[],[],[],[],[1],[],[1,3],[],[1,3,5]]),(14,[[],[],[],[],[],[1],[],[1,3]])])) []) _ _
    clear hlt
    simp only [go_sem,reqC,k4,Int.reduceBEq]
    refine ⟨?_,by repeat (first | exact AHeap.Le.refl _ | refine AHeap.Le.push ?_ _),hcl,?_⟩
    · simp [wk,wk2,wk1,wkL,wkLL,wkM]
    · simp only [zna,znc,znd,zmo,and_true];exact lr
  by_cases k5:r.kind=5
  · have hv:valid6 r=true:=decide_eq_true (by omega)
    have lr:=lt_req (n:=H.nx) (usedR r)
    have hx:reqAV (usedR r)=.agg [.int .i64 5,.int .i64 r.role,.int .u64 0,.int .u64 0,.slice .any 6 [],.int .i64 0,.int .i64 r.frm,.int .i64 r.count,.int .i64 0,.slice .any 1 []]:=by
      unfold usedR;rw [k5]
      simp only [reqAV,reqC,useR,zReq,Int.reduceEq,if_true,if_false,yaf,zkt,Nat.zero_div,Nat.zero_mod,Int.natCast_zero]
    rw [hv,if_pos rfl]
    rw [hx] at lr ⊢
    refine ACalls.of_aw (Ω:=[]) (T:=assoc [(5,[[],[],[],[],[],[1],[],[1,3]]),(8,[[],[],[],[],[],[],[],[1],[],[1,3],[],[1,3,5]]),(10,[[],[],[],[],[],[1],[],[1,3]]),(12,[[],[],[],[],[],[],[],[1],[],[1,3],[],[1,3,5]]),(14,[[],[],[],[],[],[1],[],[1,3]])]) mixed TblOk.nil Tryz.func40 (by kernel_rfl) (by rfl) (rs:=[.cell 2 28,.tmp 3]) (by rfl) (by kernel_rfl) (by simp only [Tryz.ntmps40,yaz,yba];decide) (Nat.le_refl _) fun hcl hlt=>?_
    change aw _ _ _ (KI Tryz.prog [] (aEnd Tryz.prog [.cell 2 28,.tmp 3] H.nx _ _ (assoc [(5,[[],[],[],[],[],[1],[],[1,3]]),(8,[[],[],[],[],[],[],[],[1],[],[1,3],[],[1,3,5]]),(10,[[],[],[],[],[],[1],[],[1,3]]),(12,[[],[],[],[],[],[],[],[1],[],[1,3],[],[1,3,5]]),(14,[[],[],[],[],[],[1],[],[1,3]])])) []) _ _
    clear hlt
    simp only [go_sem,reqC,k5,Int.reduceBEq]
    refine ⟨?_,by repeat (first | exact AHeap.Le.refl _ | refine AHeap.Le.push ?_ _),hcl,?_⟩
    · simp [wk,wk2,wk1,wkL,wkLL,wkM]
    · simp only [zna,znc,znd,zmo,and_true];exact lr
  by_cases k6:r.kind=6
  · have hv:valid6 r=true:=decide_eq_true (by omega)
    have lr:=lt_req (n:=H.nx) (usedR r)
    have hx:reqAV (usedR r)=.agg [.int .i64 6,.int .i64 0,.int .u64 0,.int .u64 0,.slice .any 6 [],.int .i64 0,.int .i64 0,.int .i64 0,.int .i64 r.port,.slice .any 1 (bys r.data)]:=by
      unfold usedR;rw [k6]
      simp only [reqAV,reqC,useR,zReq,Int.reduceEq,if_true,if_false,yaf,zkt,Nat.zero_div,Nat.zero_mod,Int.natCast_zero]
    rw [hv,if_pos rfl]
    rw [hx] at lr ⊢
    refine ACalls.of_aw (Ω:=[]) (T:=assoc [(5,[[],[],[],[],[],[1],[],[1,3]]),(8,[[],[],[],[],[],[],[],[1],[],[1,3],[],[1,3,5]]),(10,[[],[],[],[],[],[1],[],[1,3]]),(12,[[],[],[],[],[],[],[],[1],[],[1,3],[],[1,3,5]]),(14,[[],[],[],[],[],[1],[],[1,3]])]) mixed TblOk.nil Tryz.func40 (by kernel_rfl) (by rfl) (rs:=[.cell 2 28,.tmp 3]) (by rfl) (by kernel_rfl) (by simp only [Tryz.ntmps40,yaz,yba];decide) (Nat.le_refl _) fun hcl hlt=>?_
    change aw _ _ _ (KI Tryz.prog [] (aEnd Tryz.prog [.cell 2 28,.tmp 3] H.nx _ _ (assoc [(5,[[],[],[],[],[],[1],[],[1,3]]),(8,[[],[],[],[],[],[],[],[1],[],[1,3],[],[1,3,5]]),(10,[[],[],[],[],[],[1],[],[1,3]]),(12,[[],[],[],[],[],[],[],[1],[],[1,3],[],[1,3,5]]),(14,[[],[],[],[],[],[1],[],[1,3]])])) []) _ _
    clear hlt
    simp only [go_sem,reqC,k6,Int.reduceBEq]
    refine ⟨?_,by repeat (first | exact AHeap.Le.refl _ | refine AHeap.Le.push ?_ _),hcl,?_⟩
    · simp [wk,wk2,wk1,wkL,wkLL,wkM]
    · simp only [zna,znc,znd,zmo,and_true];exact lr
  have hv:valid6 r=false:=decide_eq_false (by omega)
  have lr:=lt_req (n:=H.nx) { zReq with kind:=r.kind }
  have hx:reqAV { zReq with kind:=r.kind }=.agg [.int .i64 r.kind,.int .i64 0,.int .u64 0,.int .u64 0,.slice .any 6 [],.int .i64 0,.int .i64 0,.int .i64 0,.int .i64 0,.slice .any 1 []]:=by
    simp only [reqAV,reqC,zReq,yaf,zkt,Nat.zero_div,Nat.zero_mod,Int.natCast_zero]
  rw [hv,if_neg (by decide)]
  rw [hx] at lr ⊢
  have d1:(r.kind==1)=false:=by simpa using k1
  have d2:(r.kind==2)=false:=by simpa using k2
  have d3:(r.kind==3)=false:=by simpa using k3
  have d4:(r.kind==4)=false:=by simpa using k4
  have d5:(r.kind==5)=false:=by simpa using k5
  have d6:(r.kind==6)=false:=by simpa using k6
  refine ACalls.of_aw (Ω:=[]) (T:=assoc [(5,[[],[],[],[],[],[1],[],[1,3]]),(8,[[],[],[],[],[],[],[],[1],[],[1,3],[],[1,3,5]]),(10,[[],[],[],[],[],[1],[],[1,3]]),(12,[[],[],[],[],[],[],[],[1],[],[1,3],[],[1,3,5]]),(14,[[],[],[],[],[],[1],[],[1,3]])]) mixed TblOk.nil Tryz.func40 (by kernel_rfl) (by rfl) (rs:=[.cell 2 28,.tmp 3]) (by rfl) (by kernel_rfl) (by simp only [Tryz.ntmps40,yaz,yba];decide) (Nat.le_refl _) fun hcl hlt=>?_
  change aw _ _ _ (KI Tryz.prog [] (aEnd Tryz.prog [.cell 2 28,.tmp 3] H.nx _ _ (assoc [(5,[[],[],[],[],[],[1],[],[1,3]]),(8,[[],[],[],[],[],[],[],[1],[],[1,3],[],[1,3,5]]),(10,[[],[],[],[],[],[1],[],[1,3]]),(12,[[],[],[],[],[],[],[],[1],[],[1,3],[],[1,3,5]]),(14,[[],[],[],[],[],[1],[],[1,3]])])) []) _ _
  clear hlt
  simp only [go_sem,reqC,d1,d2,d3,d4,d5,d6]
  refine ⟨?_,by repeat (first | exact AHeap.Le.refl _ | refine AHeap.Le.push ?_ _),hcl,?_⟩
  · simp [wk,wk2,wk1,wkL,wkLL,wkM]
  · simp only [zna,znc,znd,zmo,and_true];exact lr
end Go.AL

