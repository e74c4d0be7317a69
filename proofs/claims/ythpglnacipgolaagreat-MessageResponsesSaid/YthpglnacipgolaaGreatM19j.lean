/- Contracts and plain laws, a part of the proof; no condition of its own. -/
import Derived.Test.YthpglnacipgolaaGreatM19g
open List renaming length_nil → yba, length_cons → yaz, take_of_length_le → ybc, drop_append → ybd, take_append → ybe, drop_eq_nil_of_le → ybf, length_map → ybb, take_succ_cons → yaq, take_zero → yar, drop_succ_cons → yao, drop_zero → yap, nil_append → yak, cons_append → yal
open Go Go.AL Go.Proofs
namespace Go.AL
set_option linter.all false
set_option maxRecDepth 10000

theorem wrH_cells {H:AHeap} {id q j:Nat} {b:List UInt8} {wr:Bool} (h1:j≠id) (h2:j≠q):cellsOf? (wrH H id q b wr) j=cellsOf? H j:=by
  unfold cellsOf? wrH
  rw [AHeap.get_set_ne _ _ h1,AHeap.get_set_ne _ _ h2]
theorem bodyR_len {r:SReq} (k:Int) (h:ROk r):(bodyR k r).length≤500000:=by
  have ln:=fun n w=>wUint_len n w
  have lv:=wValue_len h.el
  have lb:=wBytes_len r.data
  have lu:=bodyUs_len r.ups h.uo
  have hu:=h.ul
  unfold bodyR
  repeat' split
  all_goals
    simp only [List.length_append,yba]
    have a1:=ln r.role 2
    have a2:=ln r.ups.length 2
    have a3:=ln r.table 2
    have a4:=ln r.frm 4
    have a5:=ln r.count 2
    have a6:=ln r.port 2
    omega
theorem lt_resB {n:Nat} {l:List UInt8} {k:Int}:AV.lt n (.tup [.slice .any 1 (bys l),.int .i64 k]):=by
  simp only [zna,znc,znd,zmn,zma,and_true,true_and]
  intro i e;cases e
def wireR (r:SReq):List UInt8:=wUint r.kind 1++bodyR r.kind r
/-- the encoding of a request, and the error -/
def encR (r:SReq):List UInt8 × Int :=
  if permR r=false then ([],2) else if 32<r.ups.length∨320<r.data.length then ([],3) else if (!rg r.kind 1||badR r.kind r)=true then ([],4)
  else if 8000<(wireR r).length then ([],3) else (wireR r,0)
def p_mEncR:List AV→AHeap→(AV→Prop)→Prop
  | [.agg l],_,K=>∃ r:SReq,(l=reqC r∧ROk r)∧K (.tup [.slice .any 1 (bys (encR r).1),.int .i64 (encR r).2])
  | _,_,_=>False
set_option maxHeartbeats 8000000 in
theorem ok_mEncR:EntOk Tryz.prog 32 (Ent.pure p_mEncR):=by
  refine EntOk.pure fun args H K h=>?_
  unfold p_mEncR at h
  split at h
  rotate_left
  · exact h.elim
  rename_i l
  obtain ⟨r,⟨rfl,hr⟩,hK⟩:=h
  refine ⟨_,hK,?_⟩
  clear hK
  cases hp:permR r
  case false =>
    rw [show encR r=([],2) by unfold encR;rw [if_pos hp]]
    refine ACalls.of_aw (Ω:=[(145,Ent.pure p_permit),(81,Ent.effect e_wNum),(146,Ent.pure p_codecs),(258,Ent.effect e_wr1),(262,Ent.effect e_wr2),(265,Ent.effect e_wr3),(269,Ent.effect e_wr4),(272,Ent.effect e_wr5),(275,Ent.effect e_wr6)]) (T:=assoc [(7,[[],[],[],[],[],[],[0],[],[0,2,6,7]]),(6,[[1]])]) mixed (TblOk.cons ok_permit (TblOk.cons ok_wNum (TblOk.cons ok_codecs (TblOk.cons ok_wr1 (TblOk.cons ok_wr2 (TblOk.cons ok_wr3 (TblOk.cons ok_wr4 (TblOk.cons ok_wr5 (TblOk.cons ok_wr6 TblOk.nil))))))))) Tryz.func32 (by kernel_rfl) (by rfl) (rs:=[.tmp 2,.tmp 3]) (by rfl) (by kernel_rfl) (by simp only [Tryz.ntmps32,yaz,yba];decide) (Nat.le_refl _) fun hcl hlt=>?_
    change aw _ _ _ (KI Tryz.prog [(145,Ent.pure p_permit),(81,Ent.effect e_wNum),(146,Ent.pure p_codecs),(258,Ent.effect e_wr1),(262,Ent.effect e_wr2),(265,Ent.effect e_wr3),(269,Ent.effect e_wr4),(272,Ent.effect e_wr5),(275,Ent.effect e_wr6)] (aEnd Tryz.prog [.tmp 2,.tmp 3] H.nx _ _ (assoc [(7,[[],[],[],[],[],[],[0],[],[0,2,6,7]]),(6,[[1]])])) []) _ _
    clear hlt
    simp only [go_sem,reqC,p_permit]
    refine ⟨r,⟨rfl,hr.rc⟩,?_⟩
    rw [hp]
    try simp only [go_sem]
    simp (disch:=first | assumption | omega | (simp;done) | (simp;omega) | (simp only [bt,and_true];first | done | omega | (simp;done))) [↓zlw,beq,ybc,ybd,ybe,endOk,wk,wk2,wk1,wkM,wkL,wkLL,ybf,hcl,zkt]
    first | done | repeat (first | exact AHeap.Le.refl _ | refine AHeap.Le.push ?_ _)
  by_cases h1:32<r.ups.length
  · have d1:decide ((r.ups.length:Int) > 32)=true:=decide_eq_true (by omega)
    rw [show encR r=([],3) by unfold encR;rw [if_neg (by rw [hp];decide),if_pos (.inl h1)]]
    refine ACalls.of_aw (Ω:=[(145,Ent.pure p_permit),(81,Ent.effect e_wNum),(146,Ent.pure p_codecs),(258,Ent.effect e_wr1),(262,Ent.effect e_wr2),(265,Ent.effect e_wr3),(269,Ent.effect e_wr4),(272,Ent.effect e_wr5),(275,Ent.effect e_wr6)]) (T:=assoc [(7,[[],[],[],[],[],[],[0],[],[0,2,6,7]]),(6,[[1]])]) mixed (TblOk.cons ok_permit (TblOk.cons ok_wNum (TblOk.cons ok_codecs (TblOk.cons ok_wr1 (TblOk.cons ok_wr2 (TblOk.cons ok_wr3 (TblOk.cons ok_wr4 (TblOk.cons ok_wr5 (TblOk.cons ok_wr6 TblOk.nil))))))))) Tryz.func32 (by kernel_rfl) (by rfl) (rs:=[.tmp 2,.tmp 3]) (by rfl) (by kernel_rfl) (by simp only [Tryz.ntmps32,yaz,yba];decide) (Nat.le_refl _) fun hcl hlt=>?_
    change aw _ _ _ (KI Tryz.prog [(145,Ent.pure p_permit),(81,Ent.effect e_wNum),(146,Ent.pure p_codecs),(258,Ent.effect e_wr1),(262,Ent.effect e_wr2),(265,Ent.effect e_wr3),(269,Ent.effect e_wr4),(272,Ent.effect e_wr5),(275,Ent.effect e_wr6)] (aEnd Tryz.prog [.tmp 2,.tmp 3] H.nx _ _ (assoc [(7,[[],[],[],[],[],[],[0],[],[0,2,6,7]]),(6,[[1]])])) []) _ _
    clear hlt
    simp only [go_sem,reqC,p_permit]
    refine ⟨r,⟨rfl,hr.rc⟩,?_⟩
    rw [hp]
    try simp only [go_sem,ybb,d1]
    simp (disch:=first | assumption | omega | (simp;done) | (simp;omega) | (simp only [bt,and_true];first | done | omega | (simp;done))) [↓zlw,beq,ybc,ybd,ybe,endOk,wk,wk2,wk1,wkM,wkL,wkLL,ybf,hcl,zkt]
    first | done | repeat (first | exact AHeap.Le.refl _ | refine AHeap.Le.push ?_ _)
  have d1:decide ((r.ups.length:Int) > 32)=false:=decide_eq_false (by omega)
  by_cases h2:320<r.data.length
  · have d2:decide ((r.data.length:Int) > 320)=true:=decide_eq_true (by omega)
    rw [show encR r=([],3) by unfold encR;rw [if_neg (by rw [hp];decide),if_pos (.inr h2)]]
    refine ACalls.of_aw (Ω:=[(145,Ent.pure p_permit),(81,Ent.effect e_wNum),(146,Ent.pure p_codecs),(258,Ent.effect e_wr1),(262,Ent.effect e_wr2),(265,Ent.effect e_wr3),(269,Ent.effect e_wr4),(272,Ent.effect e_wr5),(275,Ent.effect e_wr6)]) (T:=assoc [(7,[[],[],[],[],[],[],[0],[],[0,2,6,7]]),(6,[[1]])]) mixed (TblOk.cons ok_permit (TblOk.cons ok_wNum (TblOk.cons ok_codecs (TblOk.cons ok_wr1 (TblOk.cons ok_wr2 (TblOk.cons ok_wr3 (TblOk.cons ok_wr4 (TblOk.cons ok_wr5 (TblOk.cons ok_wr6 TblOk.nil))))))))) Tryz.func32 (by kernel_rfl) (by rfl) (rs:=[.tmp 2,.tmp 3]) (by rfl) (by kernel_rfl) (by simp only [Tryz.ntmps32,yaz,yba];decide) (Nat.le_refl _) fun hcl hlt=>?_
    change aw _ _ _ (KI Tryz.prog [(145,Ent.pure p_permit),(81,Ent.effect e_wNum),(146,Ent.pure p_codecs),(258,Ent.effect e_wr1),(262,Ent.effect e_wr2),(265,Ent.effect e_wr3),(269,Ent.effect e_wr4),(272,Ent.effect e_wr5),(275,Ent.effect e_wr6)] (aEnd Tryz.prog [.tmp 2,.tmp 3] H.nx _ _ (assoc [(7,[[],[],[],[],[],[],[0],[],[0,2,6,7]]),(6,[[1]])])) []) _ _
    clear hlt
    simp only [go_sem,reqC,p_permit]
    refine ⟨r,⟨rfl,hr.rc⟩,?_⟩
    rw [hp]
    try simp only [go_sem,byq,ybb,d1,d2]
    simp (disch:=first | assumption | omega | (simp;done) | (simp;omega) | (simp only [bt,and_true];first | done | omega | (simp;done))) [↓zlw,beq,ybc,ybd,ybe,endOk,wk,wk2,wk1,wkM,wkL,wkLL,ybf,hcl,zkt]
    first | done | repeat (first | exact AHeap.Le.refl _ | refine AHeap.Le.push ?_ _)
  have d2:decide ((r.data.length:Int) > 320)=false:=decide_eq_false (by omega)
  have hk12:1≤r.kind∧r.kind≤6:=by
    unfold permR at hp
    rw [Bool.and_eq_true,decide_eq_true_eq] at hp
    exact hp.1
  have hk:=kind_cases hk12.1 hk12.2
  have he0:encR r=if (!rg r.kind 1||badR r.kind r)=true then ([],4) else if 8000<(wireR r).length then ([],3) else (wireR r,0):=by
    unfold encR;rw [if_neg (by rw [hp];decide),if_neg (by omega)]
  have hlb:=bodyR_len r.kind hr
  have hln:=wUint_len r.kind 1
  have hlw:(wireR r).length≤600000:=by unfold wireR;rw [List.length_append];omega
  obtain ⟨RE,hRE⟩:∃ RE,encR r=RE:=⟨_,rfl⟩
  rw [hRE] at he0 ⊢
  refine ACalls.of_aw (Ω:=[(145,Ent.pure p_permit),(81,Ent.effect e_wNum),(146,Ent.pure p_codecs),(258,Ent.effect e_wr1),(262,Ent.effect e_wr2),(265,Ent.effect e_wr3),(269,Ent.effect e_wr4),(272,Ent.effect e_wr5),(275,Ent.effect e_wr6)]) (T:=assoc [(7,[[],[],[],[],[],[],[0],[],[0,2,6,7]]),(6,[[1]])]) mixed (TblOk.cons ok_permit (TblOk.cons ok_wNum (TblOk.cons ok_codecs (TblOk.cons ok_wr1 (TblOk.cons ok_wr2 (TblOk.cons ok_wr3 (TblOk.cons ok_wr4 (TblOk.cons ok_wr5 (TblOk.cons ok_wr6 TblOk.nil))))))))) Tryz.func32 (by kernel_rfl) (by rfl) (rs:=[.tmp 2,.tmp 3]) (by rfl) (by kernel_rfl) (by simp only [Tryz.ntmps32,yaz,yba];decide) (Nat.le_refl _) fun hcl hlt=>?_
  change aw _ _ _ (KI Tryz.prog [(145,Ent.pure p_permit),(81,Ent.effect e_wNum),(146,Ent.pure p_codecs),(258,Ent.effect e_wr1),(262,Ent.effect e_wr2),(265,Ent.effect e_wr3),(269,Ent.effect e_wr4),(272,Ent.effect e_wr5),(275,Ent.effect e_wr6)] (aEnd Tryz.prog [.tmp 2,.tmp 3] H.nx _ _ (assoc [(7,[[],[],[],[],[],[],[0],[],[0,2,6,7]]),(6,[[1]])])) []) _ _
  clear hlt
  simp only [go_sem,reqC,p_permit]
  refine ⟨r,⟨rfl,hr.rc⟩,?_⟩
  rw [hp]
  try simp only [go_sem,byq,ybb,d1,d2]
  refine weak_cell 4 0 1 (cs:=[AV.slice .nil 1 [],AV.bool false]) rfl (by simp only [go_sem]) rfl ?_
  obtain ⟨HB,hHB⟩:∃ HB,HB=(((H.push (.cells (reqC r))).push (.buf 1 0)).push (.cells [.slice (.own (H.nx+1+1+1)) 1 [],.bool false])).push (.buf 1 0):=⟨_,rfl⟩
  have hnB:HB.nx=H.nx+1+1+1+1:=by rw [hHB];rfl
  have hWB:WOn HB (H.nx+1+1) (H.nx+1+1+1) [] false:=by
    rw [hHB]
    exact ⟨by simp [zkp,zkm,zkt],by simp [zkp,zkm],by simp⟩
  have hcB:HB.Closed:=by
    have h1:=closed_set (i:=H.nx+1+1) (cs:=[.slice (.own (H.nx+1+1+1)) 1 [],.bool false]) (closed_buf (a:=1) (b:=0) (closed_cells (cs:=[]) (closed_buf (a:=1) (b:=0) (closed_cells (cs:=reqC r) hcl (by have:=lt_req (n:=H.nx+1) r;simp only [reqAV,zmz] at this;exact this))) trivial)) (by simp only [znc,znd,zmo,and_true,zkm];rw [lt_sliceL];exact ⟨fun id h=>(by cases h;omega),trivial⟩)
    simp only [go_sem] at h1
    rw [hHB];exact h1
  have hcr:cellsOf? HB H.nx=some (reqC r):=by rw [hHB];simp only [go_sem,reqC]
  have hle:H.Le HB:=by rw [hHB];repeat (first | exact AHeap.Le.refl _ | refine AHeap.Le.push ?_ _)
  have hidB:=AHeap.get_lt hWB.o
  have hqB:=AHeap.get_lt hWB.bu
  have hc0:=fun b w=>(hWB.closed (b':=b) (wr':=w) hcB)
  have hcw:∀ b w,cellsOf? (wrH HB (H.nx+1+1) (H.nx+1+1+1) b w) H.nx=some (reqC r):=fun b w=>by rw [wrH_cells (by omega) (by omega),hcr]
  have hcI:∀ b w,cellsOf? (wrH HB (H.nx+1+1) (H.nx+1+1+1) b w) (H.nx+1+1)=some [.slice (.own (H.nx+1+1+1)) 1 (bys b),.bool w]:=fun b w=>by
    unfold cellsOf? wrH
    rw [AHeap.get_set_same _ _ (by rw [zkn];exact hidB)]
  have hlW:∀ b w,H.Le (wrH HB (H.nx+1+1) (H.nx+1+1+1) b w):=fun b w=>by
    refine ⟨hle.nx,fun j x hj=>?_⟩
    have hj2:=AHeap.get_lt hj
    unfold wrH
    rw [AHeap.get_set_ne _ _ (by omega),AHeap.get_set_ne _ _ (by omega)]
    exact hle.get _ _ hj
  have hcd:codL.length=6:=rfl
  have hl1:(wUint r.kind 1).length≤1000:=by omega
  have hWK:WOn (wrH HB (H.nx+1+1) (H.nx+1+1+1) (wUint r.kind 1) (!rg r.kind 1)) (H.nx+1+1) (H.nx+1+1+1) (wUint r.kind 1) (!rg r.kind 1):=hWB.next (by omega)
  simp only [reqC] at hHB hcr hcw
  simp only [blkE,blkP,bhq,Nat.reduceMod,Nat.reduceDiv,stepH,stepM,toMs1,toMs,toMs0,strK,pubK,pubF,pubV,yaq,yar,yao,yap,go_sem,byq,List.set_cons_zero,← hHB,reqC,e_wNum,hcr]
  refine ⟨H.nx+1+1+1,[],false,hWB,?_⟩
  simp only [yak,Bool.false_or]
  clear hHB
  obtain ⟨rw1,hrw1⟩:∃ w,wireR r=w:=⟨_,rfl⟩
  rcases hk with hk | hk | hk | hk | hk | hk
  · have hw:IntKind.i64.wrap (r.kind - 1)=0:=by rw [hk];decide
    have hg:codL.getD 0 .junk=.agg [.func (.func 257) [] [],.func (.func 258) [] [],.func (.func 260) [] []]:=rfl
    have et:((0:Int)).toNat=0:=rfl
    have hwr:wUint r.kind 1++bodyR 1 r=wireR r:=by unfold wireR;rw [hk]
    have hbd:badR 1 r=badR r.kind r:=by rw [hk]
    simp only [go_sem,byq,hcw,p_codecs,hw,hcd,et,hg,e_wr1]
    refine ⟨by omega,H.nx+1+1+1,_,_,r,⟨hWK,rfl,hr,hl1⟩,?_⟩
    rw [wrH_wrH hWB.ne,hwr,hbd]
    simp only [go_sem,byq,hcI]
    refine cond_split (fun hb=>?_) (fun hb=>?_)
    · rw [if_pos hb] at he0
      subst he0
      simp only [go_sem,byq,hcI]
      refine ⟨⟨.inl ⟨.inl rfl,rfl,rfl⟩,rfl,trivial⟩,by repeat (first | exact hlW _ _ | refine AHeap.Le.push ?_ _),hcl,?_⟩
      first | exact lt_resB | exact lt_resB (l:=[])
    · rw [if_neg (by rw [hb];decide)] at he0
      simp only [go_sem,byq,hcI]
      refine cond_split (fun hb2=>?_) (fun hb2=>?_)
      · have hb3:8000<(wireR r).length:=by simp at hb2;omega
        rw [if_pos hb3] at he0
        subst he0
        simp only [go_sem,byq,hcI]
        refine ⟨⟨.inl ⟨.inl rfl,rfl,rfl⟩,rfl,trivial⟩,by repeat (first | exact hlW _ _ | refine AHeap.Le.push ?_ _),hcl,?_⟩
        first | exact lt_resB | exact lt_resB (l:=[])
      · have hb3:¬ 8000<(wireR r).length:=by simp at hb2;omega
        rw [if_neg hb3] at he0
        subst he0
        simp only [go_sem,byq,hcI]
        refine ⟨⟨.inl ⟨.inl rfl,rfl,rfl⟩,rfl,trivial⟩,by repeat (first | exact hlW _ _ | refine AHeap.Le.push ?_ _),hcl,?_⟩
        first | exact lt_resB | exact lt_resB (l:=[])
  skip
  · have hw:IntKind.i64.wrap (r.kind - 1)=1:=by rw [hk];decide
    have hg:codL.getD 1 .junk=.agg [.func (.func 261) [] [],.func (.func 262) [] [],.func (.func 263) [] []]:=rfl
    have et:((1:Int)).toNat=1:=rfl
    have hwr:wUint r.kind 1++bodyR 2 r=wireR r:=by unfold wireR;rw [hk]
    have hbd:badR 2 r=badR r.kind r:=by rw [hk]
    simp only [go_sem,byq,hcw,p_codecs,hw,hcd,et,hg,e_wr2]
    refine ⟨by omega,H.nx+1+1+1,_,_,r,⟨hWK,rfl,hr,hl1⟩,?_⟩
    rw [wrH_wrH hWB.ne,hwr,hbd]
    simp only [go_sem,byq,hcI]
    refine cond_split (fun hb=>?_) (fun hb=>?_)
    · rw [if_pos hb] at he0
      subst he0
      simp only [go_sem,byq,hcI]
      refine ⟨⟨.inl ⟨.inl rfl,rfl,rfl⟩,rfl,trivial⟩,by repeat (first | exact hlW _ _ | refine AHeap.Le.push ?_ _),hcl,?_⟩
      first | exact lt_resB | exact lt_resB (l:=[])
    · rw [if_neg (by rw [hb];decide)] at he0
      simp only [go_sem,byq,hcI]
      refine cond_split (fun hb2=>?_) (fun hb2=>?_)
      · have hb3:8000<(wireR r).length:=by simp at hb2;omega
        rw [if_pos hb3] at he0
        subst he0
        simp only [go_sem,byq,hcI]
        refine ⟨⟨.inl ⟨.inl rfl,rfl,rfl⟩,rfl,trivial⟩,by repeat (first | exact hlW _ _ | refine AHeap.Le.push ?_ _),hcl,?_⟩
        first | exact lt_resB | exact lt_resB (l:=[])
      · have hb3:¬ 8000<(wireR r).length:=by simp at hb2;omega
        rw [if_neg hb3] at he0
        subst he0
        simp only [go_sem,byq,hcI]
        refine ⟨⟨.inl ⟨.inl rfl,rfl,rfl⟩,rfl,trivial⟩,by repeat (first | exact hlW _ _ | refine AHeap.Le.push ?_ _),hcl,?_⟩
        first | exact lt_resB | exact lt_resB (l:=[])
  skip
  · have hw:IntKind.i64.wrap (r.kind - 1)=2:=by rw [hk];decide
    have hg:codL.getD 2 .junk=.agg [.func (.func 264) [] [],.func (.func 265) [] [],.func (.func 266) [] []]:=rfl
    have et:((2:Int)).toNat=2:=rfl
    have hwr:wUint r.kind 1++bodyR 3 r=wireR r:=by unfold wireR;rw [hk]
    have hbd:badR 3 r=badR r.kind r:=by rw [hk]
    simp only [go_sem,byq,hcw,p_codecs,hw,hcd,et,hg,e_wr3]
    refine ⟨by omega,H.nx+1+1+1,_,_,r,⟨hWK,rfl,hr,hl1⟩,?_⟩
    rw [wrH_wrH hWB.ne,hwr,hbd]
    simp only [go_sem,byq,hcI]
    refine cond_split (fun hb=>?_) (fun hb=>?_)
    · rw [if_pos hb] at he0
      subst he0
      simp only [go_sem,byq,hcI]
      refine ⟨⟨.inl ⟨.inl rfl,rfl,rfl⟩,rfl,trivial⟩,by repeat (first | exact hlW _ _ | refine AHeap.Le.push ?_ _),hcl,?_⟩
      first | exact lt_resB | exact lt_resB (l:=[])
    · rw [if_neg (by rw [hb];decide)] at he0
      simp only [go_sem,byq,hcI]
      refine cond_split (fun hb2=>?_) (fun hb2=>?_)
      · have hb3:8000<(wireR r).length:=by simp at hb2;omega
        rw [if_pos hb3] at he0
        subst he0
        simp only [go_sem,byq,hcI]
        refine ⟨⟨.inl ⟨.inl rfl,rfl,rfl⟩,rfl,trivial⟩,by repeat (first | exact hlW _ _ | refine AHeap.Le.push ?_ _),hcl,?_⟩
        first | exact lt_resB | exact lt_resB (l:=[])
      · have hb3:¬ 8000<(wireR r).length:=by simp at hb2;omega
        rw [if_neg hb3] at he0
        subst he0
        simp only [go_sem,byq,hcI]
        refine ⟨⟨.inl ⟨.inl rfl,rfl,rfl⟩,rfl,trivial⟩,by repeat (first | exact hlW _ _ | refine AHeap.Le.push ?_ _),hcl,?_⟩
        first | exact lt_resB | exact lt_resB (l:=[])
  skip
  · have hw:IntKind.i64.wrap (r.kind - 1)=3:=by rw [hk];decide
    have hg:codL.getD 3 .junk=.agg [.func (.func 268) [] [],.func (.func 269) [] [],.func (.func 270) [] []]:=rfl
    have et:((3:Int)).toNat=3:=rfl
    have hwr:wUint r.kind 1++bodyR 4 r=wireR r:=by unfold wireR;rw [hk]
    have hbd:badR 4 r=badR r.kind r:=by rw [hk]
    simp only [go_sem,byq,hcw,p_codecs,hw,hcd,et,hg,e_wr4]
    refine ⟨by omega,H.nx+1+1+1,_,_,r,⟨hWK,rfl,hr,hl1⟩,?_⟩
    rw [wrH_wrH hWB.ne,hwr,hbd]
    simp only [go_sem,byq,hcI]
    refine cond_split (fun hb=>?_) (fun hb=>?_)
    · rw [if_pos hb] at he0
      subst he0
      simp only [go_sem,byq,hcI]
      refine ⟨⟨.inl ⟨.inl rfl,rfl,rfl⟩,rfl,trivial⟩,by repeat (first | exact hlW _ _ | refine AHeap.Le.push ?_ _),hcl,?_⟩
      first | exact lt_resB | exact lt_resB (l:=[])
    · rw [if_neg (by rw [hb];decide)] at he0
      simp only [go_sem,byq,hcI]
      refine cond_split (fun hb2=>?_) (fun hb2=>?_)
      · have hb3:8000<(wireR r).length:=by simp at hb2;omega
        rw [if_pos hb3] at he0
        subst he0
        simp only [go_sem,byq,hcI]
        refine ⟨⟨.inl ⟨.inl rfl,rfl,rfl⟩,rfl,trivial⟩,by repeat (first | exact hlW _ _ | refine AHeap.Le.push ?_ _),hcl,?_⟩
        first | exact lt_resB | exact lt_resB (l:=[])
      · have hb3:¬ 8000<(wireR r).length:=by simp at hb2;omega
        rw [if_neg hb3] at he0
        subst he0
        simp only [go_sem,byq,hcI]
        refine ⟨⟨.inl ⟨.inl rfl,rfl,rfl⟩,rfl,trivial⟩,by repeat (first | exact hlW _ _ | refine AHeap.Le.push ?_ _),hcl,?_⟩
        first | exact lt_resB | exact lt_resB (l:=[])
  skip
  · have hw:IntKind.i64.wrap (r.kind - 1)=4:=by rw [hk];decide
    have hg:codL.getD 4 .junk=.agg [.func (.func 271) [] [],.func (.func 272) [] [],.func (.func 273) [] []]:=rfl
    have et:((4:Int)).toNat=4:=rfl
    have hwr:wUint r.kind 1++bodyR 5 r=wireR r:=by unfold wireR;rw [hk]
    have hbd:badR 5 r=badR r.kind r:=by rw [hk]
    simp only [go_sem,byq,hcw,p_codecs,hw,hcd,et,hg,e_wr5]
    refine ⟨by omega,H.nx+1+1+1,_,_,r,⟨hWK,rfl,hr,hl1⟩,?_⟩
    rw [wrH_wrH hWB.ne,hwr,hbd]
    simp only [go_sem,byq,hcI]
    refine cond_split (fun hb=>?_) (fun hb=>?_)
    · rw [if_pos hb] at he0
      subst he0
      simp only [go_sem,byq,hcI]
      refine ⟨⟨.inl ⟨.inl rfl,rfl,rfl⟩,rfl,trivial⟩,by repeat (first | exact hlW _ _ | refine AHeap.Le.push ?_ _),hcl,?_⟩
      first | exact lt_resB | exact lt_resB (l:=[])
    · rw [if_neg (by rw [hb];decide)] at he0
      simp only [go_sem,byq,hcI]
      refine cond_split (fun hb2=>?_) (fun hb2=>?_)
      · have hb3:8000<(wireR r).length:=by simp at hb2;omega
        rw [if_pos hb3] at he0
        subst he0
        simp only [go_sem,byq,hcI]
        refine ⟨⟨.inl ⟨.inl rfl,rfl,rfl⟩,rfl,trivial⟩,by repeat (first | exact hlW _ _ | refine AHeap.Le.push ?_ _),hcl,?_⟩
        first | exact lt_resB | exact lt_resB (l:=[])
      · have hb3:¬ 8000<(wireR r).length:=by simp at hb2;omega
        rw [if_neg hb3] at he0
        subst he0
        simp only [go_sem,byq,hcI]
        refine ⟨⟨.inl ⟨.inl rfl,rfl,rfl⟩,rfl,trivial⟩,by repeat (first | exact hlW _ _ | refine AHeap.Le.push ?_ _),hcl,?_⟩
        first | exact lt_resB | exact lt_resB (l:=[])
  skip
  · have hw:IntKind.i64.wrap (r.kind - 1)=5:=by rw [hk];decide
    have hg:codL.getD 5 .junk=.agg [.func (.func 274) [] [],.func (.func 275) [] [],.func (.func 276) [] []]:=rfl
    have et:((5:Int)).toNat=5:=rfl
    have hwr:wUint r.kind 1++bodyR 6 r=wireR r:=by unfold wireR;rw [hk]
    have hbd:badR 6 r=badR r.kind r:=by rw [hk]
    simp only [go_sem,byq,hcw,p_codecs,hw,hcd,et,hg,e_wr6]
    refine ⟨by omega,H.nx+1+1+1,_,_,r,⟨hWK,rfl,hr,hl1⟩,?_⟩
    rw [wrH_wrH hWB.ne,hwr,hbd]
    simp only [go_sem,byq,hcI]
    refine cond_split (fun hb=>?_) (fun hb=>?_)
    · rw [if_pos hb] at he0
      subst he0
      simp only [go_sem,byq,hcI]
      refine ⟨⟨.inl ⟨.inl rfl,rfl,rfl⟩,rfl,trivial⟩,by repeat (first | exact hlW _ _ | refine AHeap.Le.push ?_ _),hcl,?_⟩
      first | exact lt_resB | exact lt_resB (l:=[])
    · rw [if_neg (by rw [hb];decide)] at he0
      simp only [go_sem,byq,hcI]
      refine cond_split (fun hb2=>?_) (fun hb2=>?_)
      · have hb3:8000<(wireR r).length:=by simp at hb2;omega
        rw [if_pos hb3] at he0
        subst he0
        simp only [go_sem,byq,hcI]
        refine ⟨⟨.inl ⟨.inl rfl,rfl,rfl⟩,rfl,trivial⟩,by repeat (first | exact hlW _ _ | refine AHeap.Le.push ?_ _),hcl,?_⟩
        first | exact lt_resB | exact lt_resB (l:=[])
      · have hb3:¬ 8000<(wireR r).length:=by simp at hb2;omega
        rw [if_neg hb3] at he0
        subst he0
        simp only [go_sem,byq,hcI]
        refine ⟨⟨.inl ⟨.inl rfl,rfl,rfl⟩,rfl,trivial⟩,by repeat (first | exact hlW _ _ | refine AHeap.Le.push ?_ _),hcl,?_⟩
        first | exact lt_resB | exact lt_resB (l:=[])
end Go.AL


open Go Go.AL Go.Proofs
namespace Go.AL
set_option linter.all false
set_option maxRecDepth 10000

def p_xWithin:List AV→AHeap→(AV→Prop)→Prop
  | [.int .i64 n,.int .i64 a,.int .i64 b],_,K=>K (.bool (decide (a≤n∧n≤b)))
  | _,_,_=>False
theorem ok_xWithin:EntOk Tryz.prog 86 (Ent.pure p_xWithin):=by
  refine EntOk.pure fun args H K h=>?_
  unfold p_xWithin at h
  split at h
  rotate_left
  · exact h.elim
  rename_i n a b
  refine ⟨_,h,?_⟩
  clear h
  by_cases h1:a≤n
  · have d1:decide (n ≥ a)=true:=decide_eq_true h1
    rw [show decide (a≤n∧n≤b)=decide (n≤b) by rw [decide_eq_decide];exact ⟨fun h=>h.2,fun h=>⟨h1,h⟩⟩]
    refine ACalls.of_aw (Ω:=[]) (T:=assoc []) mixed TblOk.nil Tryz.func86 (by kernel_rfl) (by rfl) (rs:=[.tmp 6]) (by rfl) (by kernel_rfl) (by simp only [Tryz.ntmps86,yaz,yba];decide) (Nat.le_refl _) fun hcl hlt=>?_
    change aw _ _ _ (KI Tryz.prog [] (aEnd Tryz.prog [.tmp 6] H.nx _ _ (assoc [])) []) _ _
    clear hlt
    simp only [go_sem,d1]
    simp (disch:=first | assumption | omega | (simp;done) | (simp;omega) | (simp only [bt,and_true];first | done | omega | (simp;done))) [↓zlw,beq,ybc,ybd,ybe,endOk,wk,wk2,wk1,wkM,wkL,wkLL,ybf,hcl]
  · have d1:decide (n ≥ a)=false:=decide_eq_false h1
    rw [show decide (a≤n∧n≤b)=false from decide_eq_false fun h=>h1 h.1]
    refine ACalls.of_aw (Ω:=[]) (T:=assoc []) mixed TblOk.nil Tryz.func86 (by kernel_rfl) (by rfl) (rs:=[.tmp 6]) (by rfl) (by kernel_rfl) (by simp only [Tryz.ntmps86,yaz,yba];decide) (Nat.le_refl _) fun hcl hlt=>?_
    change aw _ _ _ (KI Tryz.prog [] (aEnd Tryz.prog [.tmp 6] H.nx _ _ (assoc [])) []) _ _
    clear hlt
    simp only [go_sem,d1]
    simp (disch:=first | assumption | omega | (simp;done) | (simp;omega) | (simp only [bt,and_true];first | done | omega | (simp;done))) [↓zlw,beq,ybc,ybd,ybe,endOk,wk,wk2,wk1,wkM,wkL,wkLL,ybf,hcl]
theorem rg2 (n:Int):decide (0≤n∧n≤65535)=rg n 2:=by
  unfold rg;rw [decide_eq_decide];exact ⟨fun h=>⟨h.1,by have:=h.2;show n<65536;omega⟩,fun h=>⟨h.1,by have:n<65536:=h.2;omega⟩⟩
theorem rg1 (n:Int):decide (0≤n∧n≤255)=rg n 1:=by
  unfold rg;rw [decide_eq_decide];exact ⟨fun h=>⟨h.1,by have:=h.2;show n<256;omega⟩,fun h=>⟨h.1,by have:n<256:=h.2;omega⟩⟩
theorem rg4 (n:Int):decide (0≤n∧n≤4294967295)=rg n 4:=by
  unfold rg;rw [decide_eq_decide];exact ⟨fun h=>⟨h.1,by have:=h.2;show n<4294967296;omega⟩,fun h=>⟨h.1,by have:n<4294967296:=h.2;omega⟩⟩
def p_xWord:List AV→AHeap→(AV→Prop)→Prop
  | [.slice _ 1 l],_,K=>∃ xs:List Int,(l=xs.map (AV.int .i64)∧xs.length≤1000)∧K (.bool (xs.all fun n=>rg n 2))
  | _,_,_=>False
set_option maxHeartbeats 2000000 in
theorem ok_xWord:EntOk Tryz.prog 87 (Ent.pure p_xWord):=by
  refine EntOk.pure fun args H K h=>?_
  unfold p_xWord at h
  split at h
  rotate_left
  · exact h.elim
  rename_i m l
  obtain ⟨xs,⟨rfl,hl⟩,hK⟩:=h
  refine ⟨_,hK,?_⟩
  clear hK
  obtain ⟨R,hR⟩:∃ R,(xs.all fun n=>rg n 2)=R:=⟨_,rfl⟩
  rw [hR]
  refine ACalls.of_aw (Ω:=[(86,Ent.pure p_xWithin)]) (T:=assoc []) mixed (TblOk.cons ok_xWithin TblOk.nil) Tryz.func87 (by kernel_rfl) (by rfl) (rs:=[.tmp 2]) (by rfl) (by kernel_rfl) (by simp only [Tryz.ntmps87,yaz,yba];decide) (Nat.le_refl _) fun hcl hlt=>?_
  change aw _ _ _ (KI Tryz.prog [(86,Ent.pure p_xWithin)] (aEnd Tryz.prog [.tmp 2] H.nx _ _ (assoc [])) []) _ _
  have hs1:=hlt (.slice m 1 (xs.map (AV.int .i64))) (by simp)
  clear hlt
  simp only [go_sem,ybb]
  refine loop_introW (A:=Nat) (fun k=>[(5,.slice m 1 (xs.map (AV.int .i64))),(6,.int .i64 (xs.length:Int)),(7,.int .i64 (k:Int))]) (fun _=>H) (fun k=>k≤xs.length∧((xs.drop k).all fun n=>rg n 2)=R) (fun k=>xs.length - k) 0 ⟨by omega,hR⟩ ?_ fun k hk=>?_
  · refine ⟨by simp only [zjy,zkd];omega,AHeap.Le.refl _,hcl,?_,?_⟩
    · simp only [ltF,zmn,and_true]
      exact hs1
    · simp [subW,wk2,wk1,wkM,Fr.get]
  obtain ⟨hk,hq⟩:=hk
  simp only [go_sem]
  refine cond_split (fun hc=>?_) (fun hc=>?_)
  · have hk':k<xs.length:=by simp at hc;omega
    obtain ⟨x,hx⟩:∃ x,x=xs[k]:=⟨_,rfl⟩
    have hd:xs.drop k=x::xs.drop (k+1):=by rw [hx];exact List.drop_eq_getElem_cons hk'
    have hg:=getD_map (f:=AV.int .i64) (l:=xs) (k:=k) (x:=x) (by rw [List.getElem?_eq_getElem hk',hx])
    have e5:IntKind.i64.wrap ((k:Int)+1)=((k+1:Nat):Int):=by rw [wrap_i64]<;>omega
    rw [hd,List.all_cons] at hq
    simp only [go_sem,Int.toNat_natCast,ybb,hg,p_xWithin,rg2]
    (repeat with_reducible refine And.intro (by first | assumption | decide | omega) ?_)
    refine cond_split (fun hb=>?_) (fun hb=>?_)
    · have hb':rg x 2=false:=by simpa using hb
      rw [hb',Bool.false_and] at hq
      rw [← hq]
      simp only [go_sem]
      simp (disch:=first | assumption | omega | (simp;done) | (simp;omega) | (simp only [bt,and_true];first | done | omega | (simp;done))) [↓zlw,beq,ybc,ybd,ybe,endOk,wk,wk2,wk1,wkM,wkL,wkLL,ybf,hcl]
    · have hb':rg x 2=true:=by simpa using hb
      rw [hb',Bool.true_and] at hq
      simp only [go_sem,e5]
      refine ⟨k+1,⟨by omega,hq⟩,by omega,by (try simp only [zkm]);omega,by repeat (first | exact AHeap.Le.refl _ | refine AHeap.Le.push ?_ _),hcl,?_,?_⟩
      · simp only [ltF,zmn,and_true]
        exact hs1
      · simp [subW,wk2,wk1,wkM,Fr.get]
  · have hk':k=xs.length:=by simp at hc;omega
    subst hk'
    rw [List.drop_length] at hq
    rw [← hq]
    simp only [go_sem,List.all_nil]
    simp (disch:=first | assumption | omega | (simp;done) | (simp;omega) | (simp only [bt,and_true];first | done | omega | (simp;done))) [↓zlw,beq,ybc,ybd,ybe,endOk,wk,wk2,wk1,wkM,wkL,wkLL,ybf,hcl]
def p_xRanged:List AV→AHeap→(AV→Prop)→Prop
  | [.agg l],_,K=>∃ e:SEntry,(l=entryC e∧COk e)∧K (.bool (rgE e))
  | _,_,_=>False
theorem rgE_split (e:SEntry):rgE e=(([e.table,e.prio,e.act].all fun n=>rg n 2)&&decide (e.ms.length≤4)&&decide (e.args.length≤4)&&e.ms.all rgM):=by
  unfold rgE
  simp only [List.all_cons,List.all_nil,Bool.and_true,Bool.and_assoc]
set_option maxHeartbeats 4000000 in
theorem ok_xRanged:EntOk Tryz.prog 88 (Ent.pure p_xRanged):=by
  refine EntOk.pure fun args H K h=>?_
  unfold p_xRanged at h
  split at h
  rotate_left
  · exact h.elim
  rename_i l
  obtain ⟨e,⟨rfl,he⟩,hK⟩:=h
  refine ⟨_,hK,?_⟩
  clear hK
  rw [rgE_split]
  have hml:=he.ok.ml
  obtain ⟨W3,hW3⟩:∃ W3,([e.table,e.prio,e.act].all fun n=>rg n 2)=W3:=⟨_,rfl⟩
  rw [hW3]
  have d3:decide ((e.ms.length:Int)≤4)=decide (e.ms.length≤4):=by rw [decide_eq_decide];omega
  have d4:decide ((e.args.length:Int)≤4)=decide (e.args.length≤4):=by rw [decide_eq_decide];omega
  generalize hl4:decide (e.ms.length≤4)=L4 at *
  generalize ha4:decide (e.args.length≤4)=A4 at *
  cases W3
  · simp only [Bool.false_and]
    refine ACalls.of_aw (Ω:=[(87,Ent.pure p_xWord),(86,Ent.pure p_xWithin)]) (T:=assoc []) mixed (TblOk.cons ok_xWord (TblOk.cons ok_xWithin TblOk.nil)) Tryz.func88 (by kernel_rfl) (by rfl) (rs:=[.tmp 2]) (by rfl) (by kernel_rfl) (by simp only [Tryz.ntmps88,yaz,yba];decide) (Nat.le_refl _) fun hcl hlt=>?_
    change aw _ _ _ (KI Tryz.prog [(87,Ent.pure p_xWord),(86,Ent.pure p_xWithin)] (aEnd Tryz.prog [.tmp 2] H.nx _ _ (assoc [])) []) _ _
    clear hlt
    simp only [go_sem,entryC,p_xWord,ybb]
    try refine ⟨[e.table,e.prio,e.act],⟨rfl,by simp⟩,?_⟩
    rw [hW3]
    try simp only [go_sem,entryC,ybb]
    refine loop_introW (A:=Nat) (fun k=>[(3,.bool (false&&(e.ms.take k).all rgM)),(27,.slice .any 8 (e.ms.map matchAV)),(28,.int .i64 (e.ms.length:Int)),(29,.int .i64 (k:Int))]) (fun _=>H) (fun k=>k≤e.ms.length) (fun k=>e.ms.length - k) 0 (by omega) ?_ fun k hk=>?_
    · refine ⟨by simp only [zjy,zkd];omega,by repeat (first | exact AHeap.Le.refl _ | refine AHeap.Le.push ?_ _),hcl,?_,?_⟩
      · simp [ltF,zmn,zmo,lt_map lt_match]
      · simp [subW,wk2,wk1,wkM,Fr.get]
    simp only [go_sem]
    refine cond_split (fun hc=>?_) (fun hc=>?_)
    · have hk':k<e.ms.length:=by simp at hc;omega
      obtain ⟨m,hm⟩:∃ m,m=e.ms[k]:=⟨_,rfl⟩
      have hg:=getD_map (f:=matchAV) (l:=e.ms) (k:=k) (x:=m) (by rw [List.getElem?_eq_getElem hk',hm])
      have e5:IntKind.i64.wrap ((k:Int)+1)=((k+1:Nat):Int):=by rw [wrap_i64]<;>omega
      have tm:=teq_noMatch (m:=m)
      have et:e.ms.take (k+1)=e.ms.take k++[m]:=by rw [hm,List.take_succ_eq_append_getElem hk']
      have eB:(false&&(e.ms.take (k+1)).all rgM)=((false&&(e.ms.take k).all rgM)&&rgM m):=by rw [et,List.all_append,List.all_cons,List.all_nil,Bool.and_true,Bool.and_assoc]
      obtain ⟨Bn,hBn⟩:∃ Bn,(false&&(e.ms.take (k+1)).all rgM)=Bn:=⟨_,rfl⟩
      rw [hBn] at eB
      generalize (false&&(e.ms.take k).all rgM)=Bk at *
      have fin:∀ (X:List AV),True:=fun _=>trivial
      cases Bk
      · rw [Bool.false_and] at eB
        simp only [go_sem,Int.toNat_natCast,ybb,hg,matchAV,matchC,vc,yal,yak,e5]
        (repeat with_reducible refine And.intro (by first | assumption | decide | omega) ?_)
        refine ⟨k+1,by omega,by omega,by (try simp only [zkm]);omega,by repeat (first | exact AHeap.Le.refl _ | refine AHeap.Le.push ?_ _),hcl,?_,?_⟩
        · simp [ltF,zmn,zmo,lt_map lt_match]
        · simp [subW,wk2,wk1,wkM,Fr.get,hBn,eB]
      · rw [Bool.true_and] at eB
        cases hp1:rg m.pfx 1
        · have er:rgM m=false:=by unfold rgM;rw [hp1];rfl
          rw [er] at eB
          simp only [go_sem,Int.toNat_natCast,ybb,hg,matchAV,matchC,vc,yal,yak,e5,p_xWithin,rg1,hp1]
          (repeat with_reducible refine And.intro (by first | assumption | decide | omega) ?_)
          refine ⟨k+1,by omega,by omega,by (try simp only [zkm]);omega,by repeat (first | exact AHeap.Le.refl _ | refine AHeap.Le.push ?_ _),hcl,?_,?_⟩
          · simp [ltF,zmn,zmo,lt_map lt_match]
          · simp [subW,wk2,wk1,wkM,Fr.get,hBn,eB]
        · cases hpr:m.present
          · have er:rgM m=decide (m=noMatch):=by unfold rgM;rw [hp1,hpr];simp
            rw [er] at eB
            generalize decide (m=noMatch)=D at *
            simp only [matchC,vc,yal,yak,hpr] at tm
            simp only [go_sem,Int.toNat_natCast,ybb,hg,matchAV,matchC,vc,yal,yak,e5,p_xWithin,rg1,hp1,hpr,tm,eqg_matchV,Bool.bne_false]
            (repeat with_reducible refine And.intro (by first | assumption | decide | omega) ?_)
            refine ⟨k+1,by omega,by omega,by (try simp only [zkm]);omega,by repeat (first | exact AHeap.Le.refl _ | refine AHeap.Le.push ?_ _),hcl,?_,?_⟩
            · simp [ltF,zmn,zmo,lt_map lt_match]
            · simp [subW,wk2,wk1,wkM,Fr.get,hBn,eB]
          · have er:rgM m=true:=by unfold rgM;rw [hp1,hpr];rfl
            rw [er] at eB
            simp only [go_sem,Int.toNat_natCast,ybb,hg,matchAV,matchC,vc,yal,yak,e5,p_xWithin,rg1,hp1,hpr]
            (repeat with_reducible refine And.intro (by first | assumption | decide | omega) ?_)
            refine ⟨k+1,by omega,by omega,by (try simp only [zkm]);omega,by repeat (first | exact AHeap.Le.refl _ | refine AHeap.Le.push ?_ _),hcl,?_,?_⟩
            · simp [ltF,zmn,zmo,lt_map lt_match]
            · simp [subW,wk2,wk1,wkM,Fr.get,hBn,eB]
    · have hk':k=e.ms.length:=by simp at hc;omega
      subst hk'
      rw [List.take_length]
      simp only [go_sem]
      simp (disch:=first | assumption | omega | (simp;done) | (simp;omega) | (simp only [bt,and_true];first | done | omega | (simp;done))) [↓zlw,beq,ybc,ybd,ybe,endOk,wk,wk2,wk1,wkM,wkL,wkLL,ybf,hcl]
  cases L4
  · simp only [Bool.false_and,Bool.true_and]
    refine ACalls.of_aw (Ω:=[(87,Ent.pure p_xWord),(86,Ent.pure p_xWithin)]) (T:=assoc []) mixed (TblOk.cons ok_xWord (TblOk.cons ok_xWithin TblOk.nil)) Tryz.func88 (by kernel_rfl) (by rfl) (rs:=[.tmp 2]) (by rfl) (by kernel_rfl) (by simp only [Tryz.ntmps88,yaz,yba];decide) (Nat.le_refl _) fun hcl hlt=>?_
    change aw _ _ _ (KI Tryz.prog [(87,Ent.pure p_xWord),(86,Ent.pure p_xWithin)] (aEnd Tryz.prog [.tmp 2] H.nx _ _ (assoc [])) []) _ _
    clear hlt
    simp only [go_sem,entryC,p_xWord,ybb,d3]
    try refine ⟨[e.table,e.prio,e.act],⟨rfl,by simp⟩,?_⟩
    rw [hW3]
    try simp only [go_sem,entryC,ybb,d3]
    refine loop_introW (A:=Nat) (fun k=>[(3,.bool (false&&(e.ms.take k).all rgM)),(27,.slice .any 8 (e.ms.map matchAV)),(28,.int .i64 (e.ms.length:Int)),(29,.int .i64 (k:Int))]) (fun _=>H) (fun k=>k≤e.ms.length) (fun k=>e.ms.length - k) 0 (by omega) ?_ fun k hk=>?_
    · refine ⟨by simp only [zjy,zkd];omega,by repeat (first | exact AHeap.Le.refl _ | refine AHeap.Le.push ?_ _),hcl,?_,?_⟩
      · simp [ltF,zmn,zmo,lt_map lt_match]
      · simp [subW,wk2,wk1,wkM,Fr.get]
    simp only [go_sem]
    refine cond_split (fun hc=>?_) (fun hc=>?_)
    · have hk':k<e.ms.length:=by simp at hc;omega
      obtain ⟨m,hm⟩:∃ m,m=e.ms[k]:=⟨_,rfl⟩
      have hg:=getD_map (f:=matchAV) (l:=e.ms) (k:=k) (x:=m) (by rw [List.getElem?_eq_getElem hk',hm])
      have e5:IntKind.i64.wrap ((k:Int)+1)=((k+1:Nat):Int):=by rw [wrap_i64]<;>omega
      have tm:=teq_noMatch (m:=m)
      have et:e.ms.take (k+1)=e.ms.take k++[m]:=by rw [hm,List.take_succ_eq_append_getElem hk']
      have eB:(false&&(e.ms.take (k+1)).all rgM)=((false&&(e.ms.take k).all rgM)&&rgM m):=by rw [et,List.all_append,List.all_cons,List.all_nil,Bool.and_true,Bool.and_assoc]
      obtain ⟨Bn,hBn⟩:∃ Bn,(false&&(e.ms.take (k+1)).all rgM)=Bn:=⟨_,rfl⟩
      rw [hBn] at eB
      generalize (false&&(e.ms.take k).all rgM)=Bk at *
      have fin:∀ (X:List AV),True:=fun _=>trivial
      cases Bk
      · rw [Bool.false_and] at eB
        simp only [go_sem,Int.toNat_natCast,ybb,hg,matchAV,matchC,vc,yal,yak,e5]
        (repeat with_reducible refine And.intro (by first | assumption | decide | omega) ?_)
        refine ⟨k+1,by omega,by omega,by (try simp only [zkm]);omega,by repeat (first | exact AHeap.Le.refl _ | refine AHeap.Le.push ?_ _),hcl,?_,?_⟩
        · simp [ltF,zmn,zmo,lt_map lt_match]
        · simp [subW,wk2,wk1,wkM,Fr.get,hBn,eB]
      · rw [Bool.true_and] at eB
        cases hp1:rg m.pfx 1
        · have er:rgM m=false:=by unfold rgM;rw [hp1];rfl
          rw [er] at eB
          simp only [go_sem,Int.toNat_natCast,ybb,hg,matchAV,matchC,vc,yal,yak,e5,p_xWithin,rg1,hp1]
          (repeat with_reducible refine And.intro (by first | assumption | decide | omega) ?_)
          refine ⟨k+1,by omega,by omega,by (try simp only [zkm]);omega,by repeat (first | exact AHeap.Le.refl _ | refine AHeap.Le.push ?_ _),hcl,?_,?_⟩
          · simp [ltF,zmn,zmo,lt_map lt_match]
          · simp [subW,wk2,wk1,wkM,Fr.get,hBn,eB]
        · cases hpr:m.present
          · have er:rgM m=decide (m=noMatch):=by unfold rgM;rw [hp1,hpr];simp
            rw [er] at eB
            generalize decide (m=noMatch)=D at *
            simp only [matchC,vc,yal,yak,hpr] at tm
            simp only [go_sem,Int.toNat_natCast,ybb,hg,matchAV,matchC,vc,yal,yak,e5,p_xWithin,rg1,hp1,hpr,tm,eqg_matchV,Bool.bne_false]
            (repeat with_reducible refine And.intro (by first | assumption | decide | omega) ?_)
            refine ⟨k+1,by omega,by omega,by (try simp only [zkm]);omega,by repeat (first | exact AHeap.Le.refl _ | refine AHeap.Le.push ?_ _),hcl,?_,?_⟩
            · simp [ltF,zmn,zmo,lt_map lt_match]
            · simp [subW,wk2,wk1,wkM,Fr.get,hBn,eB]
          · have er:rgM m=true:=by unfold rgM;rw [hp1,hpr];rfl
            rw [er] at eB
            simp only [go_sem,Int.toNat_natCast,ybb,hg,matchAV,matchC,vc,yal,yak,e5,p_xWithin,rg1,hp1,hpr]
            (repeat with_reducible refine And.intro (by first | assumption | decide | omega) ?_)
            refine ⟨k+1,by omega,by omega,by (try simp only [zkm]);omega,by repeat (first | exact AHeap.Le.refl _ | refine AHeap.Le.push ?_ _),hcl,?_,?_⟩
            · simp [ltF,zmn,zmo,lt_map lt_match]
            · simp [subW,wk2,wk1,wkM,Fr.get,hBn,eB]
    · have hk':k=e.ms.length:=by simp at hc;omega
      subst hk'
      rw [List.take_length]
      simp only [go_sem]
      simp (disch:=first | assumption | omega | (simp;done) | (simp;omega) | (simp only [bt,and_true];first | done | omega | (simp;done))) [↓zlw,beq,ybc,ybd,ybe,endOk,wk,wk2,wk1,wkM,wkL,wkLL,ybf,hcl]
  cases A4
  · simp only [Bool.false_and,Bool.true_and]
    refine ACalls.of_aw (Ω:=[(87,Ent.pure p_xWord),(86,Ent.pure p_xWithin)]) (T:=assoc []) mixed (TblOk.cons ok_xWord (TblOk.cons ok_xWithin TblOk.nil)) Tryz.func88 (by kernel_rfl) (by rfl) (rs:=[.tmp 2]) (by rfl) (by kernel_rfl) (by simp only [Tryz.ntmps88,yaz,yba];decide) (Nat.le_refl _) fun hcl hlt=>?_
    change aw _ _ _ (KI Tryz.prog [(87,Ent.pure p_xWord),(86,Ent.pure p_xWithin)] (aEnd Tryz.prog [.tmp 2] H.nx _ _ (assoc [])) []) _ _
    clear hlt
    simp only [go_sem,entryC,p_xWord,ybb,d3,d4]
    try refine ⟨[e.table,e.prio,e.act],⟨rfl,by simp⟩,?_⟩
    rw [hW3]
    try simp only [go_sem,entryC,ybb,d3,d4]
    refine loop_introW (A:=Nat) (fun k=>[(3,.bool (false&&(e.ms.take k).all rgM)),(27,.slice .any 8 (e.ms.map matchAV)),(28,.int .i64 (e.ms.length:Int)),(29,.int .i64 (k:Int))]) (fun _=>H) (fun k=>k≤e.ms.length) (fun k=>e.ms.length - k) 0 (by omega) ?_ fun k hk=>?_
    · refine ⟨by simp only [zjy,zkd];omega,by repeat (first | exact AHeap.Le.refl _ | refine AHeap.Le.push ?_ _),hcl,?_,?_⟩
      · simp [ltF,zmn,zmo,lt_map lt_match]
      · simp [subW,wk2,wk1,wkM,Fr.get]
    simp only [go_sem]
    refine cond_split (fun hc=>?_) (fun hc=>?_)
    · have hk':k<e.ms.length:=by simp at hc;omega
      obtain ⟨m,hm⟩:∃ m,m=e.ms[k]:=⟨_,rfl⟩
      have hg:=getD_map (f:=matchAV) (l:=e.ms) (k:=k) (x:=m) (by rw [List.getElem?_eq_getElem hk',hm])
      have e5:IntKind.i64.wrap ((k:Int)+1)=((k+1:Nat):Int):=by rw [wrap_i64]<;>omega
      have tm:=teq_noMatch (m:=m)
      have et:e.ms.take (k+1)=e.ms.take k++[m]:=by rw [hm,List.take_succ_eq_append_getElem hk']
      have eB:(false&&(e.ms.take (k+1)).all rgM)=((false&&(e.ms.take k).all rgM)&&rgM m):=by rw [et,List.all_append,List.all_cons,List.all_nil,Bool.and_true,Bool.and_assoc]
      obtain ⟨Bn,hBn⟩:∃ Bn,(false&&(e.ms.take (k+1)).all rgM)=Bn:=⟨_,rfl⟩
      rw [hBn] at eB
      generalize (false&&(e.ms.take k).all rgM)=Bk at *
      have fin:∀ (X:List AV),True:=fun _=>trivial
      cases Bk
      · rw [Bool.false_and] at eB
        simp only [go_sem,Int.toNat_natCast,ybb,hg,matchAV,matchC,vc,yal,yak,e5]
        (repeat with_reducible refine And.intro (by first | assumption | decide | omega) ?_)
        refine ⟨k+1,by omega,by omega,by (try simp only [zkm]);omega,by repeat (first | exact AHeap.Le.refl _ | refine AHeap.Le.push ?_ _),hcl,?_,?_⟩
        · simp [ltF,zmn,zmo,lt_map lt_match]
        · simp [subW,wk2,wk1,wkM,Fr.get,hBn,eB]
      · rw [Bool.true_and] at eB
        cases hp1:rg m.pfx 1
        · have er:rgM m=false:=by unfold rgM;rw [hp1];rfl
          rw [er] at eB
          simp only [go_sem,Int.toNat_natCast,ybb,hg,matchAV,matchC,vc,yal,yak,e5,p_xWithin,rg1,hp1]
          (repeat with_reducible refine And.intro (by first | assumption | decide | omega) ?_)
          refine ⟨k+1,by omega,by omega,by (try simp only [zkm]);omega,by repeat (first | exact AHeap.Le.refl _ | refine AHeap.Le.push ?_ _),hcl,?_,?_⟩
          · simp [ltF,zmn,zmo,lt_map lt_match]
          · simp [subW,wk2,wk1,wkM,Fr.get,hBn,eB]
        · cases hpr:m.present
          · have er:rgM m=decide (m=noMatch):=by unfold rgM;rw [hp1,hpr];simp
            rw [er] at eB
            generalize decide (m=noMatch)=D at *
            simp only [matchC,vc,yal,yak,hpr] at tm
            simp only [go_sem,Int.toNat_natCast,ybb,hg,matchAV,matchC,vc,yal,yak,e5,p_xWithin,rg1,hp1,hpr,tm,eqg_matchV,Bool.bne_false]
            (repeat with_reducible refine And.intro (by first | assumption | decide | omega) ?_)
            refine ⟨k+1,by omega,by omega,by (try simp only [zkm]);omega,by repeat (first | exact AHeap.Le.refl _ | refine AHeap.Le.push ?_ _),hcl,?_,?_⟩
            · simp [ltF,zmn,zmo,lt_map lt_match]
            · simp [subW,wk2,wk1,wkM,Fr.get,hBn,eB]
          · have er:rgM m=true:=by unfold rgM;rw [hp1,hpr];rfl
            rw [er] at eB
            simp only [go_sem,Int.toNat_natCast,ybb,hg,matchAV,matchC,vc,yal,yak,e5,p_xWithin,rg1,hp1,hpr]
            (repeat with_reducible refine And.intro (by first | assumption | decide | omega) ?_)
            refine ⟨k+1,by omega,by omega,by (try simp only [zkm]);omega,by repeat (first | exact AHeap.Le.refl _ | refine AHeap.Le.push ?_ _),hcl,?_,?_⟩
            · simp [ltF,zmn,zmo,lt_map lt_match]
            · simp [subW,wk2,wk1,wkM,Fr.get,hBn,eB]
    · have hk':k=e.ms.length:=by simp at hc;omega
      subst hk'
      rw [List.take_length]
      simp only [go_sem]
      simp (disch:=first | assumption | omega | (simp;done) | (simp;omega) | (simp only [bt,and_true];first | done | omega | (simp;done))) [↓zlw,beq,ybc,ybd,ybe,endOk,wk,wk2,wk1,wkM,wkL,wkLL,ybf,hcl]
  simp only [Bool.true_and]
  refine ACalls.of_aw (Ω:=[(87,Ent.pure p_xWord),(86,Ent.pure p_xWithin)]) (T:=assoc []) mixed (TblOk.cons ok_xWord (TblOk.cons ok_xWithin TblOk.nil)) Tryz.func88 (by kernel_rfl) (by rfl) (rs:=[.tmp 2]) (by rfl) (by kernel_rfl) (by simp only [Tryz.ntmps88,yaz,yba];decide) (Nat.le_refl _) fun hcl hlt=>?_
  change aw _ _ _ (KI Tryz.prog [(87,Ent.pure p_xWord),(86,Ent.pure p_xWithin)] (aEnd Tryz.prog [.tmp 2] H.nx _ _ (assoc [])) []) _ _
  clear hlt
  simp only [go_sem,entryC,p_xWord,ybb,d3,d4]
  try refine ⟨[e.table,e.prio,e.act],⟨rfl,by simp⟩,?_⟩
  rw [hW3]
  try simp only [go_sem,entryC,ybb,d3,d4]
  refine loop_introW (A:=Nat) (fun k=>[(3,.bool (true&&(e.ms.take k).all rgM)),(27,.slice .any 8 (e.ms.map matchAV)),(28,.int .i64 (e.ms.length:Int)),(29,.int .i64 (k:Int))]) (fun _=>H) (fun k=>k≤e.ms.length) (fun k=>e.ms.length - k) 0 (by omega) ?_ fun k hk=>?_
  · refine ⟨by simp only [zjy,zkd];omega,by repeat (first | exact AHeap.Le.refl _ | refine AHeap.Le.push ?_ _),hcl,?_,?_⟩
    · simp [ltF,zmn,zmo,lt_map lt_match]
    · simp [subW,wk2,wk1,wkM,Fr.get]
  simp only [go_sem]
  refine cond_split (fun hc=>?_) (fun hc=>?_)
  · have hk':k<e.ms.length:=by simp at hc;omega
    obtain ⟨m,hm⟩:∃ m,m=e.ms[k]:=⟨_,rfl⟩
    have hg:=getD_map (f:=matchAV) (l:=e.ms) (k:=k) (x:=m) (by rw [List.getElem?_eq_getElem hk',hm])
    have e5:IntKind.i64.wrap ((k:Int)+1)=((k+1:Nat):Int):=by rw [wrap_i64]<;>omega
    have tm:=teq_noMatch (m:=m)
    have et:e.ms.take (k+1)=e.ms.take k++[m]:=by rw [hm,List.take_succ_eq_append_getElem hk']
    have eB:(true&&(e.ms.take (k+1)).all rgM)=((true&&(e.ms.take k).all rgM)&&rgM m):=by rw [et,List.all_append,List.all_cons,List.all_nil,Bool.and_true,Bool.and_assoc]
    obtain ⟨Bn,hBn⟩:∃ Bn,(true&&(e.ms.take (k+1)).all rgM)=Bn:=⟨_,rfl⟩
    rw [hBn] at eB
    generalize (true&&(e.ms.take k).all rgM)=Bk at *
    have fin:∀ (X:List AV),True:=fun _=>trivial
    cases Bk
    · rw [Bool.false_and] at eB
      simp only [go_sem,Int.toNat_natCast,ybb,hg,matchAV,matchC,vc,yal,yak,e5]
      (repeat with_reducible refine And.intro (by first | assumption | decide | omega) ?_)
      refine ⟨k+1,by omega,by omega,by (try simp only [zkm]);omega,by repeat (first | exact AHeap.Le.refl _ | refine AHeap.Le.push ?_ _),hcl,?_,?_⟩
      · simp [ltF,zmn,zmo,lt_map lt_match]
      · simp [subW,wk2,wk1,wkM,Fr.get,hBn,eB]
    · rw [Bool.true_and] at eB
      cases hp1:rg m.pfx 1
      · have er:rgM m=false:=by unfold rgM;rw [hp1];rfl
        rw [er] at eB
        simp only [go_sem,Int.toNat_natCast,ybb,hg,matchAV,matchC,vc,yal,yak,e5,p_xWithin,rg1,hp1]
        (repeat with_reducible refine And.intro (by first | assumption | decide | omega) ?_)
        refine ⟨k+1,by omega,by omega,by (try simp only [zkm]);omega,by repeat (first | exact AHeap.Le.refl _ | refine AHeap.Le.push ?_ _),hcl,?_,?_⟩
        · simp [ltF,zmn,zmo,lt_map lt_match]
        · simp [subW,wk2,wk1,wkM,Fr.get,hBn,eB]
      · cases hpr:m.present
        · have er:rgM m=decide (m=noMatch):=by unfold rgM;rw [hp1,hpr];simp
          rw [er] at eB
          generalize decide (m=noMatch)=D at *
          simp only [matchC,vc,yal,yak,hpr] at tm
          simp only [go_sem,Int.toNat_natCast,ybb,hg,matchAV,matchC,vc,yal,yak,e5,p_xWithin,rg1,hp1,hpr,tm,eqg_matchV,Bool.bne_false]
          (repeat with_reducible refine And.intro (by first | assumption | decide | omega) ?_)
          refine ⟨k+1,by omega,by omega,by (try simp only [zkm]);omega,by repeat (first | exact AHeap.Le.refl _ | refine AHeap.Le.push ?_ _),hcl,?_,?_⟩
          · simp [ltF,zmn,zmo,lt_map lt_match]
          · simp [subW,wk2,wk1,wkM,Fr.get,hBn,eB]
        · have er:rgM m=true:=by unfold rgM;rw [hp1,hpr];rfl
          rw [er] at eB
          simp only [go_sem,Int.toNat_natCast,ybb,hg,matchAV,matchC,vc,yal,yak,e5,p_xWithin,rg1,hp1,hpr]
          (repeat with_reducible refine And.intro (by first | assumption | decide | omega) ?_)
          refine ⟨k+1,by omega,by omega,by (try simp only [zkm]);omega,by repeat (first | exact AHeap.Le.refl _ | refine AHeap.Le.push ?_ _),hcl,?_,?_⟩
          · simp [ltF,zmn,zmo,lt_map lt_match]
          · simp [subW,wk2,wk1,wkM,Fr.get,hBn,eB]
  · have hk':k=e.ms.length:=by simp at hc;omega
    subst hk'
    rw [List.take_length]
    simp only [go_sem]
    simp (disch:=first | assumption | omega | (simp;done) | (simp;omega) | (simp only [bt,and_true];first | done | omega | (simp;done))) [↓zlw,beq,ybc,ybd,ybe,endOk,wk,wk2,wk1,wkM,wkL,wkLL,ybf,hcl]
end Go.AL


open Go Go.AL Go.Proofs
namespace Go.AL
set_option linter.all false
set_option maxRecDepth 10000

end Go.AL

