/- Contracts and plain laws, a part of the proof; no condition of its own. -/
import Derived.Test.YthpglnacipgolaaGreatM20a
import Derived.Test.YthpglnacipgolaaGreatM20j
open List renaming length_cons → yaz, length_nil → yba, take_of_length_le → ybc, drop_append → ybd, take_append → ybe, drop_eq_nil_of_le → ybf, length_map → ybb, take_succ_cons → yaq, take_zero → yar, drop_succ_cons → yao, drop_zero → yap, nil_append → yak, append_nil → yaj, map_cons → yae, map_nil → yaf, cons_append → yal
open Go Go.AL Go.Proofs
namespace Go.AL
set_option linter.all false
set_option maxRecDepth 10000

def bodyRec (r:SRec):List UInt8:=wUint r.num 4++wUint r.ctl 1++wUint r.role 2++wUint r.kind 1++wUint r.code 1++wUint r.fail 2++wUint r.upd 2
def badRec (r:SRec):Bool:=!rg r.num 4||!rg r.ctl 1||!rg r.role 2||!rg r.kind 1||!rg r.code 1||!rg r.fail 2||!rg r.upd 2
def e_wRec:List AV→AHeap→(AEnd→AHeap→Prop)→Prop
  | [.ptr id 0,.agg l],H,K=>∃ q b wr r,(WOn H id q b wr∧l=recC r∧b.length≤100000)∧K (.ret (.tup [])) (wrH H id q (b++bodyRec r) (wr||badRec r))
  | _,_,_=>False
set_option maxHeartbeats 2000000 in
theorem ok_wRec:EntOk Tryz.prog 84 (Ent.effect e_wRec):=by
  refine EntOk.effect fun args H K h=>?_
  unfold e_wRec at h
  split at h
  rotate_left
  · exact h.elim
  rename_i id l
  obtain ⟨q,b,wr,r,⟨hW,rfl,hb⟩,hK⟩:=h
  refine ⟨_,_,hK,?_⟩
  clear hK
  have hid:=AHeap.get_lt hW.o
  have hq:=AHeap.get_lt hW.bu
  have ln:=fun n w=>wUint_len n w
  refine ACalls.of_aw (Ω:=[(81,Ent.effect e_wNum)]) (T:=assoc []) mixed (TblOk.cons ok_wNum TblOk.nil) Tryz.func84 (by kernel_rfl) (by rfl) (rs:=[]) (by rfl) (by kernel_rfl) (by simp only [Tryz.ntmps84,yaz,yba];decide) (by rw [wrH_nx];omega) fun hcl hlt=>?_
  change aw _ _ _ (KI Tryz.prog [(81,Ent.effect e_wNum)] (aEnd Tryz.prog [] H.nx _ _ (assoc [])) []) _ _
  clear hlt
  have hcl1:=hW.closed (b':=b++bodyRec r) (wr':=wr||badRec r) hcl
  simp only [go_sem,byq,recC,e_wNum]
  refine ⟨q,(b),(wr),(hW).push _,?_⟩
  rw [wrH_push ?_ ?_]
  rotate_left
  · exact hid
  · exact hq
  have hl0:((b++wUint r.num 4)).length≤100010:=by simp only [List.length_append] at *;have:=ln r.num 4;omega
  have hW0:WOn (wrH H id q (b++wUint r.num 4) (wr||!rg r.num 4)) id q (b++wUint r.num 4) (wr||!rg r.num 4):=hW.next (by omega)
  simp only [go_sem,byq,wrH_nx,recC,e_wNum]
  refine ⟨q,((b++wUint r.num 4)),((wr||!rg r.num 4)),(hW0).push _,?_⟩
  rw [wrH_push ?_ ?_]
  rotate_left
  · exact hid
  · exact hq
  rw [wrH_wrH hW.ne]
  have hl1:(((b++wUint r.num 4)++wUint r.ctl 1)).length≤100020:=by simp only [List.length_append] at *;have:=ln r.ctl 1;omega
  have hW1:WOn (wrH H id q ((b++wUint r.num 4)++wUint r.ctl 1) ((wr||!rg r.num 4)||!rg r.ctl 1)) id q ((b++wUint r.num 4)++wUint r.ctl 1) ((wr||!rg r.num 4)||!rg r.ctl 1):=hW.next (by omega)
  simp only [go_sem,byq,wrH_nx,recC,e_wNum]
  refine ⟨q,(((b++wUint r.num 4)++wUint r.ctl 1)),(((wr||!rg r.num 4)||!rg r.ctl 1)),(hW1).push _,?_⟩
  rw [wrH_push ?_ ?_]
  rotate_left
  · exact hid
  · exact hq
  rw [wrH_wrH hW.ne]
  have hl2:((((b++wUint r.num 4)++wUint r.ctl 1)++wUint r.role 2)).length≤100030:=by simp only [List.length_append] at *;have:=ln r.role 2;omega
  have hW2:WOn (wrH H id q (((b++wUint r.num 4)++wUint r.ctl 1)++wUint r.role 2) (((wr||!rg r.num 4)||!rg r.ctl 1)||!rg r.role 2)) id q (((b++wUint r.num 4)++wUint r.ctl 1)++wUint r.role 2) (((wr||!rg r.num 4)||!rg r.ctl 1)||!rg r.role 2):=hW.next (by omega)
  simp only [go_sem,byq,wrH_nx,recC,e_wNum]
  refine ⟨q,((((b++wUint r.num 4)++wUint r.ctl 1)++wUint r.role 2)),((((wr||!rg r.num 4)||!rg r.ctl 1)||!rg r.role 2)),(hW2).push _,?_⟩
  rw [wrH_push ?_ ?_]
  rotate_left
  · exact hid
  · exact hq
  rw [wrH_wrH hW.ne]
  have hl3:(((((b++wUint r.num 4)++wUint r.ctl 1)++wUint r.role 2)++wUint r.kind 1)).length≤100040:=by simp only [List.length_append] at *;have:=ln r.kind 1;omega
  have hW3:WOn (wrH H id q ((((b++wUint r.num 4)++wUint r.ctl 1)++wUint r.role 2)++wUint r.kind 1) ((((wr||!rg r.num 4)||!rg r.ctl 1)||!rg r.role 2)||!rg r.kind 1)) id q ((((b++wUint r.num 4)++wUint r.ctl 1)++wUint r.role 2)++wUint r.kind 1) ((((wr||!rg r.num 4)||!rg r.ctl 1)||!rg r.role 2)||!rg r.kind 1):=hW.next (by omega)
  simp only [go_sem,byq,wrH_nx,recC,e_wNum]
  refine ⟨q,(((((b++wUint r.num 4)++wUint r.ctl 1)++wUint r.role 2)++wUint r.kind 1)),(((((wr||!rg r.num 4)||!rg r.ctl 1)||!rg r.role 2)||!rg r.kind 1)),(hW3).push _,?_⟩
  rw [wrH_push ?_ ?_]
  rotate_left
  · exact hid
  · exact hq
  rw [wrH_wrH hW.ne]
  have hl4:((((((b++wUint r.num 4)++wUint r.ctl 1)++wUint r.role 2)++wUint r.kind 1)++wUint r.code 1)).length≤100050:=by simp only [List.length_append] at *;have:=ln r.code 1;omega
  have hW4:WOn (wrH H id q (((((b++wUint r.num 4)++wUint r.ctl 1)++wUint r.role 2)++wUint r.kind 1)++wUint r.code 1) (((((wr||!rg r.num 4)||!rg r.ctl 1)||!rg r.role 2)||!rg r.kind 1)||!rg r.code 1)) id q (((((b++wUint r.num 4)++wUint r.ctl 1)++wUint r.role 2)++wUint r.kind 1)++wUint r.code 1) (((((wr||!rg r.num 4)||!rg r.ctl 1)||!rg r.role 2)||!rg r.kind 1)||!rg r.code 1):=hW.next (by omega)
  simp only [go_sem,byq,wrH_nx,recC,e_wNum]
  refine ⟨q,((((((b++wUint r.num 4)++wUint r.ctl 1)++wUint r.role 2)++wUint r.kind 1)++wUint r.code 1)),((((((wr||!rg r.num 4)||!rg r.ctl 1)||!rg r.role 2)||!rg r.kind 1)||!rg r.code 1)),(hW4).push _,?_⟩
  rw [wrH_push ?_ ?_]
  rotate_left
  · exact hid
  · exact hq
  rw [wrH_wrH hW.ne]
  have hl5:(((((((b++wUint r.num 4)++wUint r.ctl 1)++wUint r.role 2)++wUint r.kind 1)++wUint r.code 1)++wUint r.fail 2)).length≤100060:=by simp only [List.length_append] at *;have:=ln r.fail 2;omega
  have hW5:WOn (wrH H id q ((((((b++wUint r.num 4)++wUint r.ctl 1)++wUint r.role 2)++wUint r.kind 1)++wUint r.code 1)++wUint r.fail 2) ((((((wr||!rg r.num 4)||!rg r.ctl 1)||!rg r.role 2)||!rg r.kind 1)||!rg r.code 1)||!rg r.fail 2)) id q ((((((b++wUint r.num 4)++wUint r.ctl 1)++wUint r.role 2)++wUint r.kind 1)++wUint r.code 1)++wUint r.fail 2) ((((((wr||!rg r.num 4)||!rg r.ctl 1)||!rg r.role 2)||!rg r.kind 1)||!rg r.code 1)||!rg r.fail 2):=hW.next (by omega)
  simp only [go_sem,byq,wrH_nx,recC,e_wNum]
  refine ⟨q,(((((((b++wUint r.num 4)++wUint r.ctl 1)++wUint r.role 2)++wUint r.kind 1)++wUint r.code 1)++wUint r.fail 2)),(((((((wr||!rg r.num 4)||!rg r.ctl 1)||!rg r.role 2)||!rg r.kind 1)||!rg r.code 1)||!rg r.fail 2)),(hW5).push _,?_⟩
  rw [wrH_push ?_ ?_]
  rotate_left
  · exact hid
  · exact hq
  rw [wrH_wrH hW.ne]
  try simp only [go_sem,byq,wrH_nx,recC,e_wNum]
  have e1:(((((((b++wUint r.num 4)++wUint r.ctl 1)++wUint r.role 2)++wUint r.kind 1)++wUint r.code 1)++wUint r.fail 2)++wUint r.upd 2)=b++bodyRec r:=by simp [bodyRec,List.append_assoc]
  have e2:(((((((wr||!rg r.num 4)||!rg r.ctl 1)||!rg r.role 2)||!rg r.kind 1)||!rg r.code 1)||!rg r.fail 2)||!rg r.upd 2)=(wr||badRec r):=by simp [badRec,Bool.or_assoc]
  rw [e1,e2]
  try simp (disch:=first | assumption | omega | (simp;done) | (simp;omega) | (simp only [bt,and_true];first | done | omega | (simp;done))) [↓zlw,beq,ybc,ybd,ybe,endOk,wk,wk2,wk1,wkM,wkL,wkLL,ybf,hcl1]
  first | done | repeat (first | exact AHeap.Le.refl _ | refine AHeap.Le.push ?_ _)
end Go.AL


open Go Go.AL Go.Proofs
namespace Go.AL
set_option linter.all false
set_option maxRecDepth 10000

def bodyE (e:SEntry):List UInt8:=if rgE e then wEntry e else []
def wBit (b:Bool):List UInt8:=[if b then 1 else 0]
def headP (r:SResp):List UInt8:=wUint r.code 1++wUint r.fail 2++wBit r.prim++wUint r.ents.length 2
def tailP (r:SResp):List UInt8:=wBit r.drop++wUint r.reas 1++wUint r.port 2++wBytes r.data
/-- the bytes of a response -/
def wireP (r:SResp):List UInt8:=headP r++r.ents.flatMap bodyE++wUint r.recs.length 2++r.recs.flatMap bodyRec++tailP r
def badP (r:SResp):Bool:=!rg r.code 1||!rg r.fail 2||!rg r.ents.length 2||(r.ents.any fun e=>!rgE e)||!rg r.recs.length 2||r.recs.any badRec||!rg r.reas 1||!rg r.port 2
/-- the encoding of a response, and the error -/
def encP (r:SResp):List UInt8 × Int :=
  if 24<r.recs.length∨1000<r.data.length then ([],3) else if badP r=true then ([],4) else (wireP r,0)
structure PE (r:SResp):Prop where
  el:r.ents.length≤40
  rl:r.recs.length≤140737488355328
  dl:r.data.length≤140737488355328
  eo:∀ e∈r.ents,COk e
theorem PE.pc {r:SResp} (h:PE r):PC r:=⟨by have:=h.el;omega,h.rl,h.eo⟩
theorem bodyE_len {e:SEntry} (h:COk e):(bodyE e).length≤400:=by
  unfold bodyE
  split
  · rename_i hr
    obtain ⟨r1,r2⟩:=rgE_len hr
    exact wEntry_len4 h r1 r2
  · simp
theorem bodyEs_len:∀ (l:List SEntry),(∀ u∈l,COk u)→(l.flatMap bodyE).length≤400*l.length
  | [],_=>by simp
  | u::l,h=>by
    rw [List.flatMap_cons,List.length_append,yaz]
    have:=bodyE_len (h u List.mem_cons_self)
    have:=bodyEs_len l fun x hx=>h x (List.mem_cons_of_mem _ hx)
    omega
theorem bodyRec_len (x:SRec):(bodyRec x).length≤40:=by
  have ln:=fun n w=>wUint_len n w
  have a1:=ln x.num 4
  have a2:=ln x.ctl 1
  have a3:=ln x.role 2
  have a4:=ln x.kind 1
  have a5:=ln x.code 1
  have a6:=ln x.fail 2
  have a7:=ln x.upd 2
  unfold bodyRec
  simp only [List.length_append]
  omega
theorem bodyRecs_len:∀ (l:List SRec),(l.flatMap bodyRec).length≤40*l.length
  | []=>by simp
  | u::l=>by
    rw [List.flatMap_cons,List.length_append,yaz]
    have:=bodyRec_len u
    have:=bodyRecs_len l
    omega
def p_mEncP:List AV→AHeap→(AV→Prop)→Prop
  | [.agg l],_,K=>∃ r:SResp,(l=respC r∧PE r)∧K (.tup [.slice .any 1 (bys (encP r).1),.int .i64 (encP r).2])
  | _,_,_=>False
set_option maxHeartbeats 8000000 in
theorem ok_mEncP:EntOk Tryz.prog 22 (Ent.pure p_mEncP):=by
  refine EntOk.pure fun args H K h=>?_
  unfold p_mEncP at h
  split at h
  rotate_left
  · exact h.elim
  rename_i l
  obtain ⟨r,⟨rfl,hr⟩,hK⟩:=h
  refine ⟨_,hK,?_⟩
  clear hK
  have hel:=hr.el
  have hrl:=hr.rl
  have hdl:=hr.dl
  have ln:=fun n w=>wUint_len n w
  have d1:decide ((r.ents.length:Int) > 512)=false:=decide_eq_false (by omega)
  by_cases h2:24<r.recs.length
  · have d2:decide ((r.recs.length:Int) > 24)=true:=decide_eq_true (by omega)
    rw [show encP r=([],3) by unfold encP;rw [if_pos (.inl h2)]]
    refine ACalls.of_aw (Ω:=[(81,Ent.effect e_wNum),(82,Ent.effect e_wTru),(85,Ent.effect e_wByt),(83,Ent.effect e_wEnt),(84,Ent.effect e_wRec)]) (T:=assoc [(4,[[1]])]) mixed (TblOk.cons ok_wNum (TblOk.cons ok_wTru (TblOk.cons ok_wByt (TblOk.cons ok_wEnt (TblOk.cons ok_wRec TblOk.nil))))) Tryz.func22 (by kernel_rfl) (by rfl) (rs:=[.tmp 2,.tmp 3]) (by rfl) (by kernel_rfl) (by simp only [Tryz.ntmps22,yaz,yba];decide) (Nat.le_refl _) fun hcl hlt=>?_
    change aw _ _ _ (KI Tryz.prog [(81,Ent.effect e_wNum),(82,Ent.effect e_wTru),(85,Ent.effect e_wByt),(83,Ent.effect e_wEnt),(84,Ent.effect e_wRec)] (aEnd Tryz.prog [.tmp 2,.tmp 3] H.nx _ _ (assoc [(4,[[1]])])) []) _ _
    clear hlt
    simp only [go_sem,byq,respC,ybb,d1,d2]
    simp (disch:=first | assumption | omega | (simp;done) | (simp;omega) | (simp only [bt,and_true];first | done | omega | (simp;done))) [↓zlw,beq,ybc,ybd,ybe,endOk,wk,wk2,wk1,wkM,wkL,wkLL,ybf,hcl,zkt]
    first | done | repeat (first | exact AHeap.Le.refl _ | refine AHeap.Le.push ?_ _)
  have d2:decide ((r.recs.length:Int) > 24)=false:=decide_eq_false (by omega)
  by_cases h3:1000<r.data.length
  · have d3:decide ((r.data.length:Int) > 1000)=true:=decide_eq_true (by omega)
    rw [show encP r=([],3) by unfold encP;rw [if_pos (.inr h3)]]
    refine ACalls.of_aw (Ω:=[(81,Ent.effect e_wNum),(82,Ent.effect e_wTru),(85,Ent.effect e_wByt),(83,Ent.effect e_wEnt),(84,Ent.effect e_wRec)]) (T:=assoc [(4,[[1]])]) mixed (TblOk.cons ok_wNum (TblOk.cons ok_wTru (TblOk.cons ok_wByt (TblOk.cons ok_wEnt (TblOk.cons ok_wRec TblOk.nil))))) Tryz.func22 (by kernel_rfl) (by rfl) (rs:=[.tmp 2,.tmp 3]) (by rfl) (by kernel_rfl) (by simp only [Tryz.ntmps22,yaz,yba];decide) (Nat.le_refl _) fun hcl hlt=>?_
    change aw _ _ _ (KI Tryz.prog [(81,Ent.effect e_wNum),(82,Ent.effect e_wTru),(85,Ent.effect e_wByt),(83,Ent.effect e_wEnt),(84,Ent.effect e_wRec)] (aEnd Tryz.prog [.tmp 2,.tmp 3] H.nx _ _ (assoc [(4,[[1]])])) []) _ _
    clear hlt
    simp only [go_sem,byq,respC,ybb,d1,d2,d3]
    simp (disch:=first | assumption | omega | (simp;done) | (simp;omega) | (simp only [bt,and_true];first | done | omega | (simp;done))) [↓zlw,beq,ybc,ybd,ybe,endOk,wk,wk2,wk1,wkM,wkL,wkLL,ybf,hcl,zkt]
    first | done | repeat (first | exact AHeap.Le.refl _ | refine AHeap.Le.push ?_ _)
  have d3:decide ((r.data.length:Int) > 1000)=false:=decide_eq_false (by omega)
  have he0:encP r=if badP r=true then ([],4) else (wireP r,0):=by
    unfold encP;rw [if_neg (by omega)]
  obtain ⟨RE,hRE⟩:∃ RE,encP r=RE:=⟨_,rfl⟩
  rw [hRE] at he0 ⊢
  refine ACalls.of_aw (Ω:=[(81,Ent.effect e_wNum),(82,Ent.effect e_wTru),(85,Ent.effect e_wByt),(83,Ent.effect e_wEnt),(84,Ent.effect e_wRec)]) (T:=assoc [(4,[[1]])]) mixed (TblOk.cons ok_wNum (TblOk.cons ok_wTru (TblOk.cons ok_wByt (TblOk.cons ok_wEnt (TblOk.cons ok_wRec TblOk.nil))))) Tryz.func22 (by kernel_rfl) (by rfl) (rs:=[.tmp 2,.tmp 3]) (by rfl) (by kernel_rfl) (by simp only [Tryz.ntmps22,yaz,yba];decide) (Nat.le_refl _) fun hcl hlt=>?_
  change aw _ _ _ (KI Tryz.prog [(81,Ent.effect e_wNum),(82,Ent.effect e_wTru),(85,Ent.effect e_wByt),(83,Ent.effect e_wEnt),(84,Ent.effect e_wRec)] (aEnd Tryz.prog [.tmp 2,.tmp 3] H.nx _ _ (assoc [(4,[[1]])])) []) _ _
  clear hlt
  simp only [go_sem,byq,respC,ybb,d1,d2,d3]
  refine weak_cell 4 0 1 (cs:=[AV.slice .nil 1 [],AV.bool false]) rfl (by simp only [go_sem]) rfl ?_
  obtain ⟨HB,hHB⟩:∃ HB,HB=(((H.push (.cells (respC r))).push (.buf 1 0)).push (.cells [.slice (.own (H.nx+1+1+1)) 1 [],.bool false])).push (.buf 1 0):=⟨_,rfl⟩
  have hnB:HB.nx=H.nx+1+1+1+1:=by rw [hHB];rfl
  have hWB:WOn HB (H.nx+1+1) (H.nx+1+1+1) [] false:=by
    rw [hHB]
    exact ⟨by simp [zkp,zkm,zkt],by simp [zkp,zkm],by simp⟩
  have hcB:HB.Closed:=by
    have h1:=closed_set (i:=H.nx+1+1) (cs:=[.slice (.own (H.nx+1+1+1)) 1 [],.bool false]) (closed_buf (a:=1) (b:=0) (closed_cells (cs:=[]) (closed_buf (a:=1) (b:=0) (closed_cells (cs:=respC r) hcl (by have:=lt_resp (n:=H.nx+1) r;simp only [respAV,zmz] at this;exact this))) trivial)) (by simp only [znc,znd,zmo,and_true,zkm];rw [lt_sliceL];exact ⟨fun id h=>(by cases h;omega),trivial⟩)
    simp only [go_sem] at h1
    rw [hHB];exact h1
  have hcr:cellsOf? HB H.nx=some (respC r):=by rw [hHB];simp only [go_sem,respC]
  have hle:H.Le HB:=by rw [hHB];repeat (first | exact AHeap.Le.refl _ | refine AHeap.Le.push ?_ _)
  have hidB:=AHeap.get_lt hWB.o
  have hqB:=AHeap.get_lt hWB.bu
  have hc0:=fun b w=>(hWB.closed (b':=b) (wr':=w) hcB)
  have hcw:∀ b w,cellsOf? (wrH HB (H.nx+1+1) (H.nx+1+1+1) b w) H.nx=some (respC r):=fun b w=>by rw [wrH_cells (by omega) (by omega),hcr]
  have hcI:∀ b w,cellsOf? (wrH HB (H.nx+1+1) (H.nx+1+1+1) b w) (H.nx+1+1)=some [.slice (.own (H.nx+1+1+1)) 1 (bys b),.bool w]:=fun b w=>by
    unfold cellsOf? wrH
    rw [AHeap.get_set_same _ _ (by rw [zkn];exact hidB)]
  have hlW:∀ b w,H.Le (wrH HB (H.nx+1+1) (H.nx+1+1+1) b w):=fun b w=>by
    refine ⟨hle.nx,fun j x hj=>?_⟩
    have hj2:=AHeap.get_lt hj
    unfold wrH
    rw [AHeap.get_set_ne _ _ (by omega),AHeap.get_set_ne _ _ (by omega)]
    exact hle.get _ _ hj
  have hon:∀ b w,b.length≤100000→WOn (wrH HB (H.nx+1+1) (H.nx+1+1+1) b w) (H.nx+1+1) (H.nx+1+1+1) b w:=fun b w h=>hWB.next (by omega)
  simp only [respC] at hHB hcr hcw
  simp only [blkE,blkP,bhq,Nat.reduceMod,Nat.reduceDiv,stepH,stepM,toMs1,toMs,toMs0,strK,pubK,pubF,pubV,yaq,yar,yao,yap,go_sem,byq,List.set_cons_zero,← hHB,respC,e_wNum,hcr]
  refine ⟨H.nx+1+1+1,[],false,hWB,?_⟩
  simp only [yak,Bool.false_or]
  clear hHB
  have a1:=ln r.code 1
  have a2:=ln r.fail 2
  have a3:=ln (r.ents.length:Int) 2
  have a4:=ln (r.recs.length:Int) 2
  have a5:=ln r.reas 1
  have a6:=ln r.port 2
  simp only [blkE,blkP,go_sem,byq,hcw,hcI,wrH_nx,e_wNum,e_wTru,e_wByt,ybb]
  refine ⟨H.nx+1+1+1,wUint r.code 1,!rg r.code 1,hon _ _ (by first | omega | (simp only [List.length_append,wBit,yaz,yba];omega)),?_⟩
  rw [wrH_wrH hWB.ne]
  simp only [blkE,blkP,go_sem,byq,hcw,hcI,wrH_nx,e_wNum,e_wTru,e_wByt,ybb]
  refine ⟨H.nx+1+1+1,wUint r.code 1++wUint r.fail 2,!rg r.code 1||!rg r.fail 2,hon _ _ (by first | omega | (simp only [List.length_append,wBit,yaz,yba];omega)),?_⟩
  rw [wrH_wrH hWB.ne]
  simp only [blkE,blkP,go_sem,byq,hcw,hcI,wrH_nx,e_wNum,e_wTru,e_wByt,ybb]
  refine ⟨H.nx+1+1+1,wUint r.code 1++wUint r.fail 2++wBit r.prim,!rg r.code 1||!rg r.fail 2,hon _ _ (by first | omega | (simp only [List.length_append,wBit,yaz,yba];omega)),?_⟩
  rw [wrH_wrH hWB.ne]
  obtain ⟨B0,hB0⟩:∃ B0,B0=headP r:=⟨_,rfl⟩
  obtain ⟨W0,hW0⟩:∃ W0,W0=(!rg r.code 1||!rg r.fail 2||!rg (r.ents.length:Int) 2):=⟨_,rfl⟩
  rw [show wUint r.code 1++wUint r.fail 2++wBit r.prim++wUint (r.ents.length:Int) 2=B0 from hB0.symm,← hW0]
  have hl0:B0.length≤30:=by rw [hB0];unfold headP;simp only [List.length_append,wBit,yaz,yba];omega
  simp only [blkE,blkP,go_sem,byq,hcw,hcI,wrH_nx,e_wNum,e_wTru,e_wByt,ybb]
  refine loop_introW (A:=Nat) (fun k=>[(1,.ptr H.nx 0),(4,.ptr (H.nx+1+1) 0),(40,.slice .any 5 (r.ents.map entryAV)),(41,.int .i64 (r.ents.length:Int)),(42,.int .i64 (k:Int))]) (fun k=>wrH HB (H.nx+1+1) (H.nx+1+1+1) (B0++(r.ents.take k).flatMap bodyE) (W0||(r.ents.take k).any (fun e=>!rgE e))) (fun k=>k≤r.ents.length) (fun k=>r.ents.length - k) 0 (by omega) ?_ fun k hk=>?_
  · rw [yar,List.flatMap_nil,yaj,List.any_nil,Bool.or_false]
    refine ⟨by simp only [zjy,zkd,wrH_nx];omega,by repeat (first | exact AHeap.Le.refl _ | refine AHeap.Le.push ?_ _),hc0 _ _,?_,?_⟩
    · simp [ltF,wrH_nx,zmv,zmn,lt_map lt_entry,hnB]
      try omega
    · simp [subW,wk2,wk1,wkM,Fr.get]
  simp only [go_sem]
  have hlk:(B0++(r.ents.take k).flatMap bodyE).length≤17000:=by
    rw [List.length_append]
    have:=bodyEs_len (r.ents.take k) fun x hx=>hr.eo x (List.mem_of_mem_take hx)
    rw [List.length_take] at this
    omega
  refine cond_split (fun hc=>?_) (fun hc=>?_)
  · have hk':k<r.ents.length:=by simp at hc;omega
    obtain ⟨x,hx⟩:∃ x,x=r.ents[k]:=⟨_,rfl⟩
    have hg:=getD_map (f:=entryAV) (l:=r.ents) (k:=k) (x:=x) (by rw [List.getElem?_eq_getElem hk',hx])
    have e5:IntKind.i64.wrap ((k:Int)+1)=((k+1:Nat):Int):=by rw [wrap_i64]<;>omega
    have hxm:x∈r.ents:=by rw [hx];exact List.getElem_mem hk'
    have et:r.ents.take (k+1)=r.ents.take k++[x]:=by rw [hx,List.take_succ_eq_append_getElem hk']
    have eb:B0++(r.ents.take (k+1)).flatMap bodyE=B0++(r.ents.take k).flatMap bodyE++bodyE x:=by
      rw [et,List.flatMap_append,List.flatMap_cons,List.flatMap_nil,yaj,List.append_assoc]
    have ew:(W0||(r.ents.take (k+1)).any (fun e=>!rgE e))=(W0||(r.ents.take k).any (fun e=>!rgE e)||!rgE x):=by
      rw [et,List.any_append,List.any_cons,List.any_nil,Bool.or_false,Bool.or_assoc]
    generalize B0++(r.ents.take k).flatMap bodyE=Bk at *
    generalize (W0||(r.ents.take k).any (fun e=>!rgE e))=Wk at *
    have hWk:=hon Bk Wk (by omega)
    have hxo:=hr.eo x hxm
    simp only [go_sem,Int.toNat_natCast,ybb,hg,entryAV,entryC,wrH_nx,e_wEnt]
    (repeat with_reducible refine And.intro (by first | assumption | decide | omega) ?_)
    refine ⟨H.nx+1+1+1,Bk,Wk,x,⟨hWk.push _,rfl,hxo⟩,?_⟩
    rw [entH19_eq,show (if rgE x then wEntry x else [])=bodyE x from rfl,wrH_push ?_ ?_]
    rotate_left
    · exact hidB
    · exact hqB
    rw [wrH_wrH hWB.ne,← eb,← ew]
    simp only [go_sem,e5]
    refine ⟨k+1,by omega,by omega,by simp only [zkm,wrH_nx];omega,by repeat (first | exact AHeap.Le.refl _ | refine AHeap.Le.push ?_ _),hc0 _ _,?_,?_⟩
    · simp [ltF,wrH_nx,zmv,zmn,lt_map lt_entry,hnB]
      try omega
    · simp [subW,wk2,wk1,wkM,Fr.get]
  have hk':k=r.ents.length:=by simp at hc;omega
  subst hk'
  rw [List.take_length]
  clear hc hk
  obtain ⟨B1,hB1⟩:∃ B1,B1=B0++r.ents.flatMap bodyE:=⟨_,rfl⟩
  obtain ⟨W1,hW1⟩:∃ W1,W1=(W0||r.ents.any fun e=>!rgE e):=⟨_,rfl⟩
  rw [← hB1,← hW1]
  have hl1:B1.length≤17000:=by
    rw [hB1,List.length_append]
    have:=bodyEs_len r.ents hr.eo
    omega
  simp only [blkE,blkP,go_sem,byq,hcw,hcI,wrH_nx,e_wNum,e_wTru,e_wByt,ybb]
  refine ⟨H.nx+1+1+1,B1,W1,hon _ _ (by first | omega | (simp only [List.length_append,wBit,yaz,yba];omega)),?_⟩
  rw [wrH_wrH hWB.ne]
  obtain ⟨B2,hB2⟩:∃ B2,B2=B1++wUint (r.recs.length:Int) 2:=⟨_,rfl⟩
  obtain ⟨W2,hW2⟩:∃ W2,W2=(W1||!rg (r.recs.length:Int) 2):=⟨_,rfl⟩
  rw [← hB2,← hW2]
  have hl2:B2.length≤17010:=by rw [hB2,List.length_append];omega
  simp only [blkE,blkP,go_sem,byq,hcw,hcI,wrH_nx,e_wNum,e_wTru,e_wByt,ybb]
  refine loop_introW (A:=Nat) (fun k=>[(1,.ptr H.nx 0),(4,.ptr (H.nx+1+1) 0),(54,.slice .any 7 (r.recs.map recAV)),(55,.int .i64 (r.recs.length:Int)),(56,.int .i64 (k:Int))]) (fun k=>wrH HB (H.nx+1+1) (H.nx+1+1+1) (B2++(r.recs.take k).flatMap bodyRec) (W2||(r.recs.take k).any badRec)) (fun k=>k≤r.recs.length) (fun k=>r.recs.length - k) 0 (by omega) ?_ fun k hk=>?_
  · rw [yar,List.flatMap_nil,yaj,List.any_nil,Bool.or_false]
    refine ⟨by simp only [zjy,zkd,wrH_nx];omega,by repeat (first | exact AHeap.Le.refl _ | refine AHeap.Le.push ?_ _),hc0 _ _,?_,?_⟩
    · simp [ltF,wrH_nx,zmv,zmn,lt_map lt_rec,hnB]
      try omega
    · simp [subW,wk2,wk1,wkM,Fr.get]
  simp only [go_sem]
  have hlk:(B2++(r.recs.take k).flatMap bodyRec).length≤18000:=by
    rw [List.length_append]
    have:=bodyRecs_len (r.recs.take k)
    rw [List.length_take] at this
    omega
  refine cond_split (fun hc=>?_) (fun hc=>?_)
  · have hk':k<r.recs.length:=by simp at hc;omega
    obtain ⟨x,hx⟩:∃ x,x=r.recs[k]:=⟨_,rfl⟩
    have hg:=getD_map (f:=recAV) (l:=r.recs) (k:=k) (x:=x) (by rw [List.getElem?_eq_getElem hk',hx])
    have e5:IntKind.i64.wrap ((k:Int)+1)=((k+1:Nat):Int):=by rw [wrap_i64]<;>omega
    have hxm:x∈r.recs:=by rw [hx];exact List.getElem_mem hk'
    have et:r.recs.take (k+1)=r.recs.take k++[x]:=by rw [hx,List.take_succ_eq_append_getElem hk']
    have eb:B2++(r.recs.take (k+1)).flatMap bodyRec=B2++(r.recs.take k).flatMap bodyRec++bodyRec x:=by
      rw [et,List.flatMap_append,List.flatMap_cons,List.flatMap_nil,yaj,List.append_assoc]
    have ew:(W2||(r.recs.take (k+1)).any badRec)=(W2||(r.recs.take k).any badRec||badRec x):=by
      rw [et,List.any_append,List.any_cons,List.any_nil,Bool.or_false,Bool.or_assoc]
    generalize B2++(r.recs.take k).flatMap bodyRec=Bk at *
    generalize (W2||(r.recs.take k).any badRec)=Wk at *
    have hWk:=hon Bk Wk (by omega)
    simp only [go_sem,Int.toNat_natCast,ybb,hg,recAV,recC,wrH_nx,e_wRec]
    (repeat with_reducible refine And.intro (by first | assumption | decide | omega) ?_)
    refine ⟨H.nx+1+1+1,Bk,Wk,x,⟨hWk.push _,rfl,by omega⟩,?_⟩
    rw [wrH_push ?_ ?_]
    rotate_left
    · exact hidB
    · exact hqB
    rw [wrH_wrH hWB.ne,← eb,← ew]
    simp only [go_sem,e5]
    refine ⟨k+1,by omega,by omega,by simp only [zkm,wrH_nx];omega,by repeat (first | exact AHeap.Le.refl _ | refine AHeap.Le.push ?_ _),hc0 _ _,?_,?_⟩
    · simp [ltF,wrH_nx,zmv,zmn,lt_map lt_rec,hnB]
      try omega
    · simp [subW,wk2,wk1,wkM,Fr.get]
  have hk':k=r.recs.length:=by simp at hc;omega
  subst hk'
  rw [List.take_length]
  clear hc hk
  obtain ⟨B3,hB3⟩:∃ B3,B3=B2++r.recs.flatMap bodyRec:=⟨_,rfl⟩
  obtain ⟨W3,hW3⟩:∃ W3,W3=(W2||r.recs.any badRec):=⟨_,rfl⟩
  rw [← hB3,← hW3]
  have hl3:B3.length≤18000:=by
    rw [hB3,List.length_append]
    have:=bodyRecs_len r.recs
    omega
  simp only [blkE,blkP,go_sem,byq,hcw,hcI,wrH_nx,e_wNum,e_wTru,e_wByt,ybb]
  refine ⟨H.nx+1+1+1,B3,W3,hon _ _ (by first | omega | (simp only [List.length_append,wBit,yaz,yba];omega)),?_⟩
  rw [wrH_wrH hWB.ne]
  simp only [blkE,blkP,go_sem,byq,hcw,hcI,wrH_nx,e_wNum,e_wTru,e_wByt,ybb]
  refine ⟨H.nx+1+1+1,B3++wBit r.drop,W3,hon _ _ (by first | omega | (simp only [List.length_append,wBit,yaz,yba];omega)),?_⟩
  rw [wrH_wrH hWB.ne]
  simp only [blkE,blkP,go_sem,byq,hcw,hcI,wrH_nx,e_wNum,e_wTru,e_wByt,ybb]
  refine ⟨H.nx+1+1+1,B3++wBit r.drop++wUint r.reas 1,W3||!rg r.reas 1,hon _ _ (by first | omega | (simp only [List.length_append,wBit,yaz,yba];omega)),?_⟩
  rw [wrH_wrH hWB.ne]
  simp only [blkE,blkP,go_sem,byq,hcw,hcI,wrH_nx,e_wNum,e_wTru,e_wByt,ybb]
  refine ⟨H.nx+1+1+1,B3++wBit r.drop++wUint r.reas 1++wUint r.port 2,W3||!rg r.reas 1||!rg r.port 2,r.data,⟨hon _ _ (by first | omega | (simp only [List.length_append,wBit,yaz,yba];omega)),rfl⟩,?_⟩
  rw [wrH_wrH hWB.ne]
  have hw:B3++wBit r.drop++wUint r.reas 1++wUint r.port 2++wBytes r.data=wireP r:=by
    rw [hB3,hB2,hB1,hB0];unfold wireP tailP;simp [List.append_assoc]
  have hb:(W3||!rg r.reas 1||!rg r.port 2)=badP r:=by
    rw [hW3,hW2,hW1,hW0];rfl
  rw [hw,hb]
  simp only [blkE,blkP,go_sem,byq,hcI]
  refine cond_split (fun hb=>?_) (fun hb=>?_)
  · rw [if_pos hb] at he0
    subst he0
    simp only [go_sem,byq,hcI]
    refine ⟨⟨.inl ⟨.inl rfl,rfl,rfl⟩,rfl,trivial⟩,by repeat (first | exact hlW _ _ | refine AHeap.Le.push ?_ _),hcl,?_⟩
    first | exact lt_resB | exact lt_resB (l:=[])
  · rw [if_neg (by rw [hb];decide)] at he0
    subst he0
    simp only [go_sem,byq,hcI]
    refine ⟨⟨.inl ⟨.inl rfl,rfl,rfl⟩,rfl,trivial⟩,by repeat (first | exact hlW _ _ | refine AHeap.Le.push ?_ _),hcl,?_⟩
    first | exact lt_resB | exact lt_resB (l:=[])
end Go.AL


open Go Go.AL Go.Proofs
namespace Go.AL
set_option linter.all false
set_option maxRecDepth 10000

def readRec (s:RS):SRec × RS:=let q0:=uintR s 4;let q1:=uintR q0.2 1;let q2:=uintR q1.2 2;let q3:=uintR q2.2 1;let q4:=uintR q3.2 1;let q5:=uintR q4.2 2;let q6:=uintR q5.2 2;(⟨q0.1,q1.1,q2.1,q3.1,q4.1,q5.1,q6.1⟩,q6.2)
theorem boolR_m' {m m':Mark} {l l':List UInt8} {e:Int} {v:Bool} {e':Int} (h:boolR (m,l,e)=(v,m',l',e')):mkOk m m':=by
  have a1:=boolR_m m l e
  rw [h] at a1;exact a1
theorem bytesR_m' {m m':Mark} {l l':List UInt8} {e w:Int} {v:List UInt8} {e':Int} (h:bytesR (m,l,e) w=(v,m',l',e')):mkOk m m':=by
  have a1:=bytesR_m m l e w
  rw [h] at a1;exact a1
theorem readRec_go (s:RS):(readRec s).2.2.1.length≤s.2.1.length∧mkOk s.1 (readRec s).2.1:=by
  obtain ⟨m,l,e⟩:=s
  unfold readRec
  dsimp only
  have l0':=uintR_l m l e 4
  have n0:=uintR_m m l e 4
  generalize uintR (m,l,e) 4=q0 at *
  obtain ⟨v0,m0,l0,e0⟩:=q0
  dsimp only at l0' n0 ⊢
  have l1':=uintR_l m0 l0 e0 1
  have n1:=uintR_m m0 l0 e0 1
  generalize uintR (m0,l0,e0) 1=q1 at *
  obtain ⟨v1,m1,l1,e1⟩:=q1
  dsimp only at l1' n1 ⊢
  replace n1:=mkOk_trans n0 n1
  have l2':=uintR_l m1 l1 e1 2
  have n2:=uintR_m m1 l1 e1 2
  generalize uintR (m1,l1,e1) 2=q2 at *
  obtain ⟨v2,m2,l2,e2⟩:=q2
  dsimp only at l2' n2 ⊢
  replace n2:=mkOk_trans n1 n2
  have l3':=uintR_l m2 l2 e2 1
  have n3:=uintR_m m2 l2 e2 1
  generalize uintR (m2,l2,e2) 1=q3 at *
  obtain ⟨v3,m3,l3,e3⟩:=q3
  dsimp only at l3' n3 ⊢
  replace n3:=mkOk_trans n2 n3
  have l4':=uintR_l m3 l3 e3 1
  have n4:=uintR_m m3 l3 e3 1
  generalize uintR (m3,l3,e3) 1=q4 at *
  obtain ⟨v4,m4,l4,e4⟩:=q4
  dsimp only at l4' n4 ⊢
  replace n4:=mkOk_trans n3 n4
  have l5':=uintR_l m4 l4 e4 2
  have n5:=uintR_m m4 l4 e4 2
  generalize uintR (m4,l4,e4) 2=q5 at *
  obtain ⟨v5,m5,l5,e5⟩:=q5
  dsimp only at l5' n5 ⊢
  replace n5:=mkOk_trans n4 n5
  have l6':=uintR_l m5 l5 e5 2
  have n6:=uintR_m m5 l5 e5 2
  generalize uintR (m5,l5,e5) 2=q6 at *
  obtain ⟨v6,m6,l6,e6⟩:=q6
  dsimp only at l6' n6 ⊢
  replace n6:=mkOk_trans n5 n6
  exact ⟨by omega,n6⟩
def readEs:Nat→RS→List SEntry × RS
  | 0,s=>([],s)
  | n+1,s=>((readE s).1::(readEs n (readE s).2).1,(readEs n (readE s).2).2)
def readRs:Nat→RS→List SRec × RS
  | 0,s=>([],s)
  | n+1,s=>((readRec s).1::(readRs n (readRec s).2).1,(readRs n (readRec s).2).2)
theorem readE_go (s:RS):(readE s).2.2.1.length≤s.2.1.length∧mkOk s.1 (readE s).2.1:=by
  have a:=readE0_l s
  have b:=readE0_m s
  rw [← readE_2] at a b
  exact ⟨a,b⟩
theorem readEs_go:∀ (n:Nat) (s:RS),(readEs n s).2.2.1.length≤s.2.1.length∧mkOk s.1 (readEs n s).2.1
  | 0,s=>⟨Nat.le_refl _,.inl rfl⟩
  | n+1,s=>by
    obtain ⟨a1,a2⟩:=readE_go s
    obtain ⟨b1,b2⟩:=readEs_go n (readE s).2
    exact ⟨Nat.le_trans b1 a1,mkOk_trans a2 b2⟩
theorem readRs_go:∀ (n:Nat) (s:RS),(readRs n s).2.2.1.length≤s.2.1.length∧mkOk s.1 (readRs n s).2.1
  | 0,s=>⟨Nat.le_refl _,.inl rfl⟩
  | n+1,s=>by
    obtain ⟨a1,a2⟩:=readRec_go s
    obtain ⟨b1,b2⟩:=readRs_go n (readRec s).2
    exact ⟨Nat.le_trans b1 a1,mkOk_trans a2 b2⟩
def zResp:SResp:=⟨0,0,false,[],[],false,0,0,[]⟩
/-- the response that is read -/
def dpF (s:RS):SResp × RS :=
  let q0:=uintR s 1;let q1:=uintR q0.2 2;let q2:=boolR q1.2;let q3:=countR q2.2 512;let q4:=readEs q3.1.toNat q3.2;let q5:=countR q4.2 24;let q6:=readRs q5.1.toNat q5.2
  let q7:=boolR q6.2;let q8:=uintR q7.2 1;let q9:=uintR q8.2 2;let q10:=bytesR q9.2 1000
  (⟨q0.1,q1.1,q2.1,q4.1,q6.1,q7.1,q8.1,q9.1,q10.1⟩,q10.2)
def rspF (b:List UInt8):SResp × Int:=if finishR (dpF (.any,b,0)).2≠0 then (zResp,finishR (dpF (.any,b,0)).2) else ((dpF (.any,b,0)).1,0)
def e_mReadRec:List AV→AHeap→(AEnd→AHeap→Prop)→Prop
  | [.ptr id 0],H,K=>onR H id fun m l e=>True∧K (.ret (recAV (readRec (m,l,e)).1)) (H.set id (.cells (cellR (readRec (m,l,e)).2)))
  | _,_,_=>False
set_option maxHeartbeats 2000000 in
theorem ok_mReadRec:EntOk Tryz.prog 99 (Ent.effect e_mReadRec):=by
  refine EntOk.effect fun args H K h=>?_
  unfold e_mReadRec at h
  split at h
  rotate_left
  · exact h.elim
  rename_i id
  obtain ⟨m,l,e,hid,hle,h⟩:=onR_out h
  obtain ⟨hpre,hK⟩:=h
  refine ⟨_,_,hK,?_⟩
  clear hK
  have hl0:=AHeap.get_lt hid
  have hne:=far_of hl0
  have hss:=set_same hid
  have hcs:=cells_some hid
  have hcm:=fun cs=>@cells_set_same H id cs hl0
  have hgm:=fun o=>@get_set_same' H id o hl0
  obtain ⟨Q,hQ⟩:∃ Q,readRec (m,l,e)=Q:=⟨_,rfl⟩
  rw [hQ]
  unfold readRec at hQ
  try dsimp only at hQ
  have hl0:=uintR_l m l e 4
  have hm0:=uintR_m m l e 4
  generalize h0:uintR (m,l,e) 4=q0 at *
  obtain ⟨v0,m0,l0,e0⟩:=q0
  dsimp only at hQ hl0 hm0
  have hl1:=uintR_l m0 l0 e0 1
  have hm1:=uintR_m m0 l0 e0 1
  generalize h1:uintR (m0,l0,e0) 1=q1 at *
  obtain ⟨v1,m1,l1,e1⟩:=q1
  dsimp only at hQ hl1 hm1
  replace hm1:=mkOk_trans hm0 hm1
  have hl2:=uintR_l m1 l1 e1 2
  have hm2:=uintR_m m1 l1 e1 2
  generalize h2:uintR (m1,l1,e1) 2=q2 at *
  obtain ⟨v2,m2,l2,e2⟩:=q2
  dsimp only at hQ hl2 hm2
  replace hm2:=mkOk_trans hm1 hm2
  have hl3:=uintR_l m2 l2 e2 1
  have hm3:=uintR_m m2 l2 e2 1
  generalize h3:uintR (m2,l2,e2) 1=q3 at *
  obtain ⟨v3,m3,l3,e3⟩:=q3
  dsimp only at hQ hl3 hm3
  replace hm3:=mkOk_trans hm2 hm3
  have hl4:=uintR_l m3 l3 e3 1
  have hm4:=uintR_m m3 l3 e3 1
  generalize h4:uintR (m3,l3,e3) 1=q4 at *
  obtain ⟨v4,m4,l4,e4⟩:=q4
  dsimp only at hQ hl4 hm4
  replace hm4:=mkOk_trans hm3 hm4
  have hl5:=uintR_l m4 l4 e4 2
  have hm5:=uintR_m m4 l4 e4 2
  generalize h5:uintR (m4,l4,e4) 2=q5 at *
  obtain ⟨v5,m5,l5,e5⟩:=q5
  dsimp only at hQ hl5 hm5
  replace hm5:=mkOk_trans hm4 hm5
  have hl6:=uintR_l m5 l5 e5 2
  have hm6:=uintR_m m5 l5 e5 2
  generalize h6:uintR (m5,l5,e5) 2=q6 at *
  obtain ⟨v6,m6,l6,e6⟩:=q6
  dsimp only at hQ hl6 hm6
  replace hm6:=mkOk_trans hm5 hm6
  subst hQ
  dsimp only [cellR]
  refine ACalls.of_aw (Ω:=[(95,Ent.effect e_Uint)]) (T:=assoc []) mixed (TblOk.cons ok_Uint TblOk.nil) Tryz.func99 (by kernel_rfl) (by rfl) (rs:=[.cell 2 63]) (by rfl) (by kernel_rfl) (by simp only [Tryz.ntmps99,yaz,yba];decide) (by simp only [zkn];omega) fun hcl hlt=>?_
  change aw _ _ _ (KI Tryz.prog [(95,Ent.effect e_Uint)] (aEnd Tryz.prog [.cell 2 63] H.nx _ _ (assoc [])) []) _ _
  clear hlt
  have b0:l0.length≤100000:=by omega
  have b1:l1.length≤100000:=by omega
  have b2:l2.length≤100000:=by omega
  have b3:l3.length≤100000:=by omega
  have b4:l4.length≤100000:=by omega
  have b5:l5.length≤100000:=by omega
  have b6:l6.length≤100000:=by omega
  simp only [go_sem,byq,hne,hid,hcs,hcm,hgm,onR,onRo_some,onRo_nil,zlj,zlh,zks,and_true,true_and,hid,onR,onRo_some,cellR,vv,vc,e_Uint,h0,b0,h1,b1,h2,b2,h3,b3,h4,b4,h5,b5,h6,b6]
  have hclz:(H.set id (.cells [.slice m6 1 (bys l6),.int .i64 e6])).Closed:=closedR hid hcl m6 hm6 l6 e6
  refine ⟨hle,?_,by repeat (first | exact AHeap.Le.refl _ | refine AHeap.Le.push ?_ _),hclz,lt_rec _⟩
  simp [wk,wk2,wkL,wk1,wkM,recAV,recC]
def p_mDecP:List AV→AHeap→(AV→Prop)→Prop
  | [.slice _ 1 l],_,K=>∃ b:List UInt8,(l=bys b∧b.length≤100000)∧K (.tup [respAV (rspF b).1,.int .i64 (rspF b).2])
  | _,_,_=>False
set_option maxHeartbeats 8000000 in
theorem ok_mDecP:EntOk Tryz.prog 24 (Ent.pure p_mDecP):=by
  refine EntOk.pure fun args H K h=>?_
  unfold p_mDecP at h
  split at h
  rotate_left
  · exact h.elim
  rename_i m l
  obtain ⟨b,⟨rfl,hb⟩,hK⟩:=h
  refine ⟨_,hK,?_⟩
  clear hK
  obtain ⟨D,hD⟩:∃ D,rspF b=D:=⟨_,rfl⟩
  rw [hD]
  unfold rspF at hD
  obtain ⟨Q,hQ⟩:∃ Q,dpF (.any,b,0)=Q:=⟨_,rfl⟩
  rw [hQ] at hD
  unfold dpF at hQ
  dsimp only at hQ
  have hl0:=uintR_l .any b 0 1
  generalize h0':uintR (.any,b,0) 1=q0 at *
  obtain ⟨v0,m0,l0,e0⟩:=q0
  have hm0:=any_of (uintR_m' h0')
  subst hm0
  dsimp only at hQ hl0
  have b0:l0.length≤100000:=by omega
  have hl1:=uintR_l .any l0 e0 2
  generalize h1':uintR (.any,l0,e0) 2=q1 at *
  obtain ⟨v1,m1,l1,e1⟩:=q1
  have hm1:=any_of (uintR_m' h1')
  subst hm1
  dsimp only at hQ hl1
  have b1:l1.length≤100000:=by omega
  have hl2:=boolR_l .any l1 e1
  generalize h2':boolR (.any,l1,e1)=q2 at *
  obtain ⟨v2,m2,l2,e2⟩:=q2
  have hm2:=any_of (boolR_m' h2')
  subst hm2
  dsimp only at hQ hl2
  have b2:l2.length≤100000:=by omega
  have hl3:=countR_l .any l2 e2 512
  have hc3:=countR_b (.any,l2,e2) 512 (by decide)
  generalize h3':countR (.any,l2,e2) 512=q3 at *
  obtain ⟨v3,m3,l3,e3⟩:=q3
  have hm3:=any_of (countR_m' h3')
  subst hm3
  dsimp only at hQ hl3 hc3
  obtain ⟨k3,rfl⟩:∃ kc:Nat,v3=(kc:Int):=⟨v3.toNat,by omega⟩
  rw [Int.toNat_natCast] at hQ
  have b3:l3.length≤100000:=by omega
  have hg4:=readEs_go k3 (.any,l3,e3)
  obtain ⟨v4,m4,l4,e4,h4'⟩:∃ a b c d,readEs k3 (.any,l3,e3)=(a,b,c,d):=⟨_,_,_,_,rfl⟩
  rw [h4'] at hQ hg4
  obtain ⟨hl4,hm4⟩:=hg4
  have hm4:=any_of hm4
  subst hm4
  dsimp only at hQ hl4
  have b4:l4.length≤100000:=by omega
  have hl5:=countR_l .any l4 e4 24
  have hc5:=countR_b (.any,l4,e4) 24 (by decide)
  generalize h5':countR (.any,l4,e4) 24=q5 at *
  obtain ⟨v5,m5,l5,e5⟩:=q5
  have hm5:=any_of (countR_m' h5')
  subst hm5
  dsimp only at hQ hl5 hc5
  obtain ⟨k5,rfl⟩:∃ kc:Nat,v5=(kc:Int):=⟨v5.toNat,by omega⟩
  rw [Int.toNat_natCast] at hQ
  have b5:l5.length≤100000:=by omega
  have hg6:=readRs_go k5 (.any,l5,e5)
  obtain ⟨v6,m6,l6,e6,h6'⟩:∃ a b c d,readRs k5 (.any,l5,e5)=(a,b,c,d):=⟨_,_,_,_,rfl⟩
  rw [h6'] at hQ hg6
  obtain ⟨hl6,hm6⟩:=hg6
  have hm6:=any_of hm6
  subst hm6
  dsimp only at hQ hl6
  have b6:l6.length≤100000:=by omega
  have hl7:=boolR_l .any l6 e6
  generalize h7':boolR (.any,l6,e6)=q7 at *
  obtain ⟨v7,m7,l7,e7⟩:=q7
  have hm7:=any_of (boolR_m' h7')
  subst hm7
  dsimp only at hQ hl7
  have b7:l7.length≤100000:=by omega
  have hl8:=uintR_l .any l7 e7 1
  generalize h8':uintR (.any,l7,e7) 1=q8 at *
  obtain ⟨v8,m8,l8,e8⟩:=q8
  have hm8:=any_of (uintR_m' h8')
  subst hm8
  dsimp only at hQ hl8
  have b8:l8.length≤100000:=by omega
  have hl9:=uintR_l .any l8 e8 2
  generalize h9':uintR (.any,l8,e8) 2=q9 at *
  obtain ⟨v9,m9,l9,e9⟩:=q9
  have hm9:=any_of (uintR_m' h9')
  subst hm9
  dsimp only at hQ hl9
  have b9:l9.length≤100000:=by omega
  have hl10:=bytesR_l .any l9 e9 1000
  generalize h10':bytesR (.any,l9,e9) 1000=q10 at *
  obtain ⟨v10,m10,l10,e10⟩:=q10
  have hm10:=any_of (bytesR_m' h10')
  subst hm10
  dsimp only at hQ hl10
  have b10:l10.length≤100000:=by omega
  subst hQ
  dsimp only at hD
  obtain ⟨F,hF'⟩:∃ F,finishR (.any,l10,e10)=F:=⟨_,rfl⟩
  rw [hF'] at hD
  have ht:=fun (e:Int) (r:SResp)=>(show ∀ n,AV.lt n (.tup [respAV r,.int .i64 e]) from fun n=>by rw [zna];exact ⟨lt_resp _,by rw [zmn];trivial,trivial⟩)
  have d1:decide ((b.length:Int) > 1048576)=false:=decide_eq_false (by omega)
  refine ACalls.of_aw (Ω:=[(94,Ent.effect e_New),(95,Ent.effect e_Uint),(96,Ent.effect e_RBool),(97,Ent.effect e_RCount),(98,Ent.effect e_eRead),(99,Ent.effect e_mReadRec),(100,Ent.effect e_RBytes),(101,Ent.pure p_RFinish)]) (T:=assoc [(9,[[],[],[],[],[3],[1,3],[],[1,3]]),(13,[[],[],[],[],[3],[1,3],[],[1,3]]),(7,[[1]]),(11,[[1]])]) mixed (TblOk.cons ok_New (TblOk.cons ok_Uint (TblOk.cons ok_RBool (TblOk.cons ok_RCount (TblOk.cons ok_eRead (TblOk.cons ok_mReadRec (TblOk.cons ok_RBytes (TblOk.cons ok_RFinish TblOk.nil)))))))) Tryz.func24 (by kernel_rfl) (by rfl) (rs:=[.cell 2 60,.tmp 3]) (by rfl) (by kernel_rfl) (by simp only [Tryz.ntmps24,yaz,yba];decide) (Nat.le_refl _) fun hcl hlt=>?_
  change aw _ _ _ (KI Tryz.prog [(94,Ent.effect e_New),(95,Ent.effect e_Uint),(96,Ent.effect e_RBool),(97,Ent.effect e_RCount),(98,Ent.effect e_eRead),(99,Ent.effect e_mReadRec),(100,Ent.effect e_RBytes),(101,Ent.pure p_RFinish)] (aEnd Tryz.prog [.cell 2 60,.tmp 3] H.nx _ _ (assoc [(9,[[],[],[],[],[3],[1,3],[],[1,3]]),(13,[[],[],[],[],[3],[1,3],[],[1,3]]),(7,[[1]]),(11,[[1]])])) []) _ _
  clear hlt
  simp only [blkE,blkP,bhq,Nat.reduceMod,Nat.reduceDiv,stepH,stepM,toMs1,toMs,toMs0,strK,pubK,pubF,pubV,yaq,yar,yao,yap,go_sem,byq,d1,onR,onRo_some,cellR,Int.reduceBEq,vv,vc,List.set_cons_succ,List.set_cons_zero,hb,b0,b1,b2,b3,b4,b5,b6,b7,b8,b9,b10,h0',h1',h2',h3',h5',h7',h8',h9',h10',e_Uint,e_RBool,e_RCount,e_RBytes,p_RFinish,hF',ybb,e_New]
  refine ⟨by omega,?_⟩
  refine weak_cell 5 3 5 (cs:=[.int .i64 v0,.int .i64 v1,.bool v2,.slice .nil 1 [],.slice .nil 1 [],.bool false,.int .i64 0,.int .i64 0,.slice .nil 1 []]) rfl (by simp only [go_sem]) rfl ?_
  simp only [blkE,blkP,bhq,Nat.reduceMod,Nat.reduceDiv,stepH,stepM,toMs1,toMs,toMs0,strK,pubK,pubF,pubV,yaq,yar,yao,yap,go_sem,byq,d1,onR,onRo_some,cellR,Int.reduceBEq,vv,vc,List.set_cons_succ,List.set_cons_zero,hb,b0,b1,b2,b3,b4,b5,b6,b7,b8,b9,b10,h0',h1',h2',h3',h5',h7',h8',h9',h10',e_Uint,e_RBool,e_RCount,e_RBytes,p_RFinish,hF',ybb]
  have hc1:∀ (l':List UInt8) (e':Int) (es:List SEntry),(((((H.push (.cells [.int .i64 0,.int .i64 0,.bool false,.slice .nil 1 [],.slice .nil 1 [],.bool false,.int .i64 0,.int .i64 0,.slice .nil 1 []]))).push (.cells [.slice .any 1 (bys l'),.int .i64 e'])).push (.cells [.int .i64 v0,.int .i64 v1,.bool v2,.slice (.own (H.nx+1+1+1)) 5 (es.map entryAV),.slice .nil 1 [],.bool false,.int .i64 0,.int .i64 0,.slice .nil 1 []])).push (.buf 5 es.length)).Closed:=fun l' e' es=>by
    have h0:(((((H.push (.cells [.int .i64 0,.int .i64 0,.bool false,.slice .nil 1 [],.slice .nil 1 [],.bool false,.int .i64 0,.int .i64 0,.slice .nil 1 []]))).push (.cells [.slice .any 1 (bys l'),.int .i64 e'])).push (.cells [])).push (.buf 5 es.length)).Closed:=by
      repeat' (first | exact hcl | refine closed_buf ?_ | refine closed_cells ?_ ?_)
      all_goals first | trivial | simp [lt_sliceL,znc,znd,zmn,zmo,zlx]
    have h1:=closed_set (i:=H.nx+1+1) (cs:=[.int .i64 v0,.int .i64 v1,.bool v2,.slice (.own (H.nx+1+1+1)) 5 (es.map entryAV),.slice .nil 1 [],.bool false,.int .i64 0,.int .i64 0,.slice .nil 1 []]) h0 (by
      simp [znc,znd,zmn,zmo,zkm,zkn,lt_sliceL]
      exact ltL_iff.2 fun j hj=>by rw [List.getElem_map];exact lt_entry _)
    simp only [go_sem] at h1
    exact h1
  refine loop_introW (A:=List SEntry × (List UInt8 × Int)) (fun x=>[(2,.ptr H.nx 0),(4,.ptr (H.nx+1) 0),(5,.ptr (H.nx+1+1) 0),(23,.int .i64 (k3:Int)),(24,.int .i64 (x.1.length:Int))]) (fun x=>(((((H.push (.cells [.int .i64 0,.int .i64 0,.bool false,.slice .nil 1 [],.slice .nil 1 [],.bool false,.int .i64 0,.int .i64 0,.slice .nil 1 []]))).push (.cells [.slice .any 1 (bys x.2.1),.int .i64 x.2.2])).push (.cells [.int .i64 v0,.int .i64 v1,.bool v2,.slice (.own (H.nx+1+1+1)) 5 (x.1.map entryAV),.slice .nil 1 [],.bool false,.int .i64 0,.int .i64 0,.slice .nil 1 []])).push (.buf 5 x.1.length))) (fun x=>x.1.length≤k3∧(x.1++(readEs (k3 - x.1.length) (.any,x.2.1,x.2.2)).1,(readEs (k3 - x.1.length) (.any,x.2.1,x.2.2)).2)=(v4,.any,l4,e4)∧x.2.1.length≤100000) (fun x=>k3 - x.1.length) ([],(l3,e3)) ⟨Nat.zero_le _,by rw [yba,Nat.sub_zero,h4',yak],b3⟩ ?_ fun x hx=>?_
  · refine ⟨by simp only [zjy,zkd,zkm,zkn];omega,AHeap.Le.refl _,hc1 _ _ _,?_,?_⟩
    · simp [ltF,zmn,zmv,zkm,zkn]
      try omega
    · simp [subW,wk2,wk1,wkM,Fr.get]
  obtain ⟨us,lx,ex⟩:=x
  obtain ⟨hx1,hx2,hx3⟩:=hx
  dsimp only at hx1 hx2 hx3 ⊢
  simp only [go_sem]
  refine cond_split (fun hc=>?_) (fun hc=>?_)
  · have hk':us.length<k3:=by simp at hc;omega
    have e5:IntKind.i64.wrap ((us.length:Int)+1)=((us.length+1:Nat):Int):=by rw [wrap_i64]<;>omega
    have hk2:k3 - us.length=(k3 - (us.length+1))+1:=by omega
    have hu:readEs (k3 - us.length) (.any,lx,ex)=((readE (.any,lx,ex)).1::(readEs (k3 - (us.length+1)) (readE (.any,lx,ex)).2).1,(readEs (k3 - (us.length+1)) (readE (.any,lx,ex)).2).2):=by rw [hk2];rfl
    rw [hu] at hx2
    have hg3:=readE_go (.any,lx,ex)
    generalize hq3:readE (.any,lx,ex)=q3 at *
    obtain ⟨en,m3,lz,ez⟩:=q3
    obtain ⟨hlz,hmz⟩:=hg3
    have hmz:=any_of hmz
    subst hmz
    dsimp only at hx2 hlz
    have b3:lz.length≤100000:=by omega
    have hlen:(us++[en]).length=us.length+1:=by simp
    simp only [blkE,blkP,bhq,Nat.reduceMod,Nat.reduceDiv,stepH,stepM,toMs1,toMs,toMs0,strK,pubK,pubF,pubV,yaq,yar,yao,yap,go_sem,byq,d1,onR,onRo_some,cellR,Int.reduceBEq,vv,vc,List.set_cons_succ,List.set_cons_zero,hb,b0,b1,b2,b3,b4,b5,b6,b7,b8,b9,b10,h0',h1',h2',h3',h5',h7',h8',h9',h10',e_Uint,e_RBool,e_RCount,e_RBytes,p_RFinish,hF',ybb,hx3,hq3,e_eRead,b3,e5,entryAV,entryC]
    refine ⟨⟨by omega,by omega,fun z hz=>by rw [List.mem_singleton] at hz;subst hz;rfl⟩,(us++[en],(lz,ez)),⟨by dsimp only;omega,by dsimp only;rw [hlen,← hx2];simp [List.append_assoc],by dsimp only;omega⟩,by dsimp only;omega,?_⟩
    refine ⟨by simp only [zkm,zkn];omega,?_,hc1 _ _ _,?_,?_⟩
    · simp only [List.map_append,yae,yaf,entryAV,entryC,List.length_append,yaz,yba,yal,yak]
      repeat (first | exact AHeap.Le.refl _ | refine AHeap.Le.push ?_ _)
    · simp [ltF,zmn,zmv,zkm,zkn]
      try omega
    · simp [subW,wk2,wk1,wkM,Fr.get]
  have hk':us.length=k3:=by simp at hc;omega
  rw [hk',Nat.sub_self] at hx2
  simp only [readEs,yaj,Prod.mk.injEq,true_and] at hx2
  obtain ⟨rfl,rfl,rfl⟩:=hx2
  clear hc hx3
  rename List SEntry=>es0
  simp only [blkE,blkP,bhq,Nat.reduceMod,Nat.reduceDiv,stepH,stepM,toMs1,toMs,toMs0,strK,pubK,pubF,pubV,yaq,yar,yao,yap,go_sem,byq,d1,onR,onRo_some,cellR,Int.reduceBEq,vv,vc,List.set_cons_succ,List.set_cons_zero,hb,b0,b1,b2,b3,b4,b5,b6,b7,b8,b9,b10,h0',h1',h2',h3',h5',h7',h8',h9',h10',e_Uint,e_RBool,e_RCount,e_RBytes,p_RFinish,hF',ybb]
  refine weak_cell 5 4 7 (cs:=[.int .i64 v0,.int .i64 v1,.bool v2,.slice (.own (H.nx+1+1+1)) 5 (es0.map entryAV),.slice .nil 1 [],.bool false,.int .i64 0,.int .i64 0,.slice .nil 1 []]) rfl (by simp only [go_sem]) rfl ?_
  simp only [blkE,blkP,bhq,Nat.reduceMod,Nat.reduceDiv,stepH,stepM,toMs1,toMs,toMs0,strK,pubK,pubF,pubV,yaq,yar,yao,yap,go_sem,byq,d1,onR,onRo_some,cellR,Int.reduceBEq,vv,vc,List.set_cons_succ,List.set_cons_zero,hb,b0,b1,b2,b3,b4,b5,b6,b7,b8,b9,b10,h0',h1',h2',h3',h5',h7',h8',h9',h10',e_Uint,e_RBool,e_RCount,e_RBytes,p_RFinish,hF',ybb]
  have hc2:∀ (l':List UInt8) (e':Int) (rs:List SRec),((((((H.push (.cells [.int .i64 0,.int .i64 0,.bool false,.slice .nil 1 [],.slice .nil 1 [],.bool false,.int .i64 0,.int .i64 0,.slice .nil 1 []]))).push (.cells [.slice .any 1 (bys l'),.int .i64 e'])).push (.cells [.int .i64 v0,.int .i64 v1,.bool v2,.slice (.own (H.nx+1+1+1)) 5 (es0.map entryAV),.slice (.own (H.nx+1+1+1+1)) 7 (rs.map recAV),.bool false,.int .i64 0,.int .i64 0,.slice .nil 1 []])).push (.buf 5 es0.length)).push (.buf 7 rs.length)).Closed:=fun l' e' rs=>by
    have h0:((((((H.push (.cells [.int .i64 0,.int .i64 0,.bool false,.slice .nil 1 [],.slice .nil 1 [],.bool false,.int .i64 0,.int .i64 0,.slice .nil 1 []]))).push (.cells [.slice .any 1 (bys l'),.int .i64 e'])).push (.cells [])).push (.buf 5 es0.length)).push (.buf 7 rs.length)).Closed:=by
      repeat' (first | exact hcl | refine closed_buf ?_ | refine closed_cells ?_ ?_)
      all_goals first | trivial | simp [lt_sliceL,znc,znd,zmn,zmo,zlx]
    have h1:=closed_set (i:=H.nx+1+1) (cs:=[.int .i64 v0,.int .i64 v1,.bool v2,.slice (.own (H.nx+1+1+1)) 5 (es0.map entryAV),.slice (.own (H.nx+1+1+1+1)) 7 (rs.map recAV),.bool false,.int .i64 0,.int .i64 0,.slice .nil 1 []]) h0 (by
      simp [znc,znd,zmn,zmo,zkm,zkn,lt_sliceL]
      exact ⟨ltL_iff.2 fun j hj=>by rw [List.getElem_map];exact lt_entry _,ltL_iff.2 fun j hj=>by rw [List.getElem_map];exact lt_rec _⟩)
    simp only [go_sem] at h1
    exact h1
  refine loop_introW (A:=List SRec × (List UInt8 × Int)) (fun x=>[(2,.ptr H.nx 0),(4,.ptr (H.nx+1) 0),(5,.ptr (H.nx+1+1) 0),(35,.int .i64 (k5:Int)),(36,.int .i64 (x.1.length:Int))]) (fun x=>((((((H.push (.cells [.int .i64 0,.int .i64 0,.bool false,.slice .nil 1 [],.slice .nil 1 [],.bool false,.int .i64 0,.int .i64 0,.slice .nil 1 []]))).push (.cells [.slice .any 1 (bys x.2.1),.int .i64 x.2.2])).push (.cells [.int .i64 v0,.int .i64 v1,.bool v2,.slice (.own (H.nx+1+1+1)) 5 (es0.map entryAV),.slice (.own (H.nx+1+1+1+1)) 7 (x.1.map recAV),.bool false,.int .i64 0,.int .i64 0,.slice .nil 1 []])).push (.buf 5 es0.length)).push (.buf 7 x.1.length))) (fun x=>x.1.length≤k5∧(x.1++(readRs (k5 - x.1.length) (.any,x.2.1,x.2.2)).1,(readRs (k5 - x.1.length) (.any,x.2.1,x.2.2)).2)=(v6,.any,l6,e6)∧x.2.1.length≤100000) (fun x=>k5 - x.1.length) ([],(l5,e5)) ⟨Nat.zero_le _,by rw [yba,Nat.sub_zero,h6',yak],b5⟩ ?_ fun x hx=>?_
  · refine ⟨by simp only [zjy,zkd,zkm,zkn];omega,AHeap.Le.refl _,hc2 _ _ _,?_,?_⟩
    · simp [ltF,zmn,zmv,zkm,zkn]
      try omega
    · simp [subW,wk2,wk1,wkM,Fr.get]
  obtain ⟨us,lx,ex⟩:=x
  obtain ⟨hx1,hx2,hx3⟩:=hx
  dsimp only at hx1 hx2 hx3 ⊢
  simp only [go_sem]
  refine cond_split (fun hc=>?_) (fun hc=>?_)
  · have hk':us.length<k5:=by simp at hc;omega
    have e5:IntKind.i64.wrap ((us.length:Int)+1)=((us.length+1:Nat):Int):=by rw [wrap_i64]<;>omega
    have hk2:k5 - us.length=(k5 - (us.length+1))+1:=by omega
    have hu:readRs (k5 - us.length) (.any,lx,ex)=((readRec (.any,lx,ex)).1::(readRs (k5 - (us.length+1)) (readRec (.any,lx,ex)).2).1,(readRs (k5 - (us.length+1)) (readRec (.any,lx,ex)).2).2):=by rw [hk2];rfl
    rw [hu] at hx2
    have hg3:=readRec_go (.any,lx,ex)
    generalize hq3:readRec (.any,lx,ex)=q3 at *
    obtain ⟨en,m3,lz,ez⟩:=q3
    obtain ⟨hlz,hmz⟩:=hg3
    have hmz:=any_of hmz
    subst hmz
    dsimp only at hx2 hlz
    have b3:lz.length≤100000:=by omega
    have hlen:(us++[en]).length=us.length+1:=by simp
    simp only [blkE,blkP,bhq,Nat.reduceMod,Nat.reduceDiv,stepH,stepM,toMs1,toMs,toMs0,strK,pubK,pubF,pubV,yaq,yar,yao,yap,go_sem,byq,d1,onR,onRo_some,cellR,Int.reduceBEq,vv,vc,List.set_cons_succ,List.set_cons_zero,hb,b0,b1,b2,b3,b4,b5,b6,b7,b8,b9,b10,h0',h1',h2',h3',h5',h7',h8',h9',h10',e_Uint,e_RBool,e_RCount,e_RBytes,p_RFinish,hF',ybb,hx3,hq3,e_mReadRec,b3,e5,recAV,recC]
    refine ⟨⟨by omega,by omega,fun z hz=>by rw [List.mem_singleton] at hz;subst hz;rfl⟩,(us++[en],(lz,ez)),⟨by dsimp only;omega,by dsimp only;rw [hlen,← hx2];simp [List.append_assoc],by dsimp only;omega⟩,by dsimp only;omega,?_⟩
    refine ⟨by simp only [zkm,zkn];omega,?_,hc2 _ _ _,?_,?_⟩
    · simp only [List.map_append,yae,yaf,recAV,recC,List.length_append,yaz,yba,yal,yak]
      repeat (first | exact AHeap.Le.refl _ | refine AHeap.Le.push ?_ _)
    · simp [ltF,zmn,zmv,zkm,zkn]
      try omega
    · simp [subW,wk2,wk1,wkM,Fr.get]
  have hk':us.length=k5:=by simp at hc;omega
  rw [hk',Nat.sub_self] at hx2
  simp only [readRs,yaj,Prod.mk.injEq,true_and] at hx2
  obtain ⟨rfl,rfl,rfl⟩:=hx2
  clear hc hx3
  simp only [blkE,blkP,bhq,Nat.reduceMod,Nat.reduceDiv,stepH,stepM,toMs1,toMs,toMs0,strK,pubK,pubF,pubV,yaq,yar,yao,yap,go_sem,byq,d1,onR,onRo_some,cellR,Int.reduceBEq,vv,vc,List.set_cons_succ,List.set_cons_zero,hb,b0,b1,b2,b3,b4,b5,b6,b7,b8,b9,b10,h0',h1',h2',h3',h5',h7',h8',h9',h10',e_Uint,e_RBool,e_RCount,e_RBytes,p_RFinish,hF',ybb]
  refine cond_split (fun hf=>?_) (fun hf=>?_)
  · have hf':F≠0:=by simpa using hf
    rw [if_pos hf'] at hD
    subst hD
    simp only [go_sem,byq]
    refine ⟨?_,by repeat (first | exact AHeap.Le.refl _ | refine AHeap.Le.push ?_ _),hcl,ht _ _ _⟩
    simp [wk,wkLL,wk2,wkL,wk1,wkM,respAV,respC,zResp,zkt]
  · have hf':F=0:=by simpa using hf
    rw [if_neg (by rw [hf'];decide)] at hD
    subst hD
    simp only [go_sem,byq]
    refine ⟨?_,by repeat (first | exact AHeap.Le.refl _ | refine AHeap.Le.push ?_ _),hcl,ht _ _ _⟩
    simp [wk,wkLL,wk2,wkL,wk1,wkM,respAV,respC,zResp,zkt]
end Go.AL


open Go Go.AL Go.Proofs
namespace Go.AL
set_option linter.all false
set_option maxRecDepth 10000

def p_xDecP:List AV→AHeap→(AV→Prop)→Prop
  | [.slice _ 1 l],_,K=>∃ b:List UInt8,(l=bys b∧b.length≤100000)∧K (.tup [respAV (rspF b).1,.int .i64 (rspF b).2])
  | _,_,_=>False
set_option maxHeartbeats 8000000 in
theorem ok_xDecP:EntOk Tryz.prog 25 (Ent.pure p_xDecP):=by
  refine EntOk.pure fun args H K h=>?_
  unfold p_xDecP at h
  split at h
  rotate_left
  · exact h.elim
  rename_i m l
  obtain ⟨b,⟨rfl,hb⟩,hK⟩:=h
  refine ⟨_,hK,?_⟩
  clear hK
  obtain ⟨D,hD⟩:∃ D,rspF b=D:=⟨_,rfl⟩
  rw [hD]
  unfold rspF at hD
  obtain ⟨Q,hQ⟩:∃ Q,dpF (.any,b,0)=Q:=⟨_,rfl⟩
  rw [hQ] at hD
  unfold dpF at hQ
  dsimp only at hQ
  have hl0:=uintR_l .any b 0 1
  generalize h0':uintR (.any,b,0) 1=q0 at *
  obtain ⟨v0,m0,l0,e0⟩:=q0
  have hm0:=any_of (uintR_m' h0')
  subst hm0
  dsimp only at hQ hl0
  have b0:l0.length≤100000:=by omega
  have hl1:=uintR_l .any l0 e0 2
  generalize h1':uintR (.any,l0,e0) 2=q1 at *
  obtain ⟨v1,m1,l1,e1⟩:=q1
  have hm1:=any_of (uintR_m' h1')
  subst hm1
  dsimp only at hQ hl1
  have b1:l1.length≤100000:=by omega
  have hl2:=boolR_l .any l1 e1
  generalize h2':boolR (.any,l1,e1)=q2 at *
  obtain ⟨v2,m2,l2,e2⟩:=q2
  have hm2:=any_of (boolR_m' h2')
  subst hm2
  dsimp only at hQ hl2
  have b2:l2.length≤100000:=by omega
  have hl3:=countR_l .any l2 e2 512
  have hc3:=countR_b (.any,l2,e2) 512 (by decide)
  generalize h3':countR (.any,l2,e2) 512=q3 at *
  obtain ⟨v3,m3,l3,e3⟩:=q3
  have hm3:=any_of (countR_m' h3')
  subst hm3
  dsimp only at hQ hl3 hc3
  obtain ⟨k3,rfl⟩:∃ kc:Nat,v3=(kc:Int):=⟨v3.toNat,by omega⟩
  rw [Int.toNat_natCast] at hQ
  have b3:l3.length≤100000:=by omega
  have hg4:=readEs_go k3 (.any,l3,e3)
  obtain ⟨v4,m4,l4,e4,h4'⟩:∃ a b c d,readEs k3 (.any,l3,e3)=(a,b,c,d):=⟨_,_,_,_,rfl⟩
  rw [h4'] at hQ hg4
  obtain ⟨hl4,hm4⟩:=hg4
  have hm4:=any_of hm4
  subst hm4
  dsimp only at hQ hl4
  have b4:l4.length≤100000:=by omega
  have hl5:=countR_l .any l4 e4 24
  have hc5:=countR_b (.any,l4,e4) 24 (by decide)
  generalize h5':countR (.any,l4,e4) 24=q5 at *
  obtain ⟨v5,m5,l5,e5⟩:=q5
  have hm5:=any_of (countR_m' h5')
  subst hm5
  dsimp only at hQ hl5 hc5
  obtain ⟨k5,rfl⟩:∃ kc:Nat,v5=(kc:Int):=⟨v5.toNat,by omega⟩
  rw [Int.toNat_natCast] at hQ
  have b5:l5.length≤100000:=by omega
  have hg6:=readRs_go k5 (.any,l5,e5)
  obtain ⟨v6,m6,l6,e6,h6'⟩:∃ a b c d,readRs k5 (.any,l5,e5)=(a,b,c,d):=⟨_,_,_,_,rfl⟩
  rw [h6'] at hQ hg6
  obtain ⟨hl6,hm6⟩:=hg6
  have hm6:=any_of hm6
  subst hm6
  dsimp only at hQ hl6
  have b6:l6.length≤100000:=by omega
  have hl7:=boolR_l .any l6 e6
  generalize h7':boolR (.any,l6,e6)=q7 at *
  obtain ⟨v7,m7,l7,e7⟩:=q7
  have hm7:=any_of (boolR_m' h7')
  subst hm7
  dsimp only at hQ hl7
  have b7:l7.length≤100000:=by omega
  have hl8:=uintR_l .any l7 e7 1
  generalize h8':uintR (.any,l7,e7) 1=q8 at *
  obtain ⟨v8,m8,l8,e8⟩:=q8
  have hm8:=any_of (uintR_m' h8')
  subst hm8
  dsimp only at hQ hl8
  have b8:l8.length≤100000:=by omega
  have hl9:=uintR_l .any l8 e8 2
  generalize h9':uintR (.any,l8,e8) 2=q9 at *
  obtain ⟨v9,m9,l9,e9⟩:=q9
  have hm9:=any_of (uintR_m' h9')
  subst hm9
  dsimp only at hQ hl9
  have b9:l9.length≤100000:=by omega
  have hl10:=bytesR_l .any l9 e9 1000
  generalize h10':bytesR (.any,l9,e9) 1000=q10 at *
  obtain ⟨v10,m10,l10,e10⟩:=q10
  have hm10:=any_of (bytesR_m' h10')
  subst hm10
  dsimp only at hQ hl10
  have b10:l10.length≤100000:=by omega
  subst hQ
  dsimp only at hD
  obtain ⟨F,hF'⟩:∃ F,finishR (.any,l10,e10)=F:=⟨_,rfl⟩
  rw [hF'] at hD
  have ht:=fun (e:Int) (r:SResp)=>(show ∀ n,AV.lt n (.tup [respAV r,.int .i64 e]) from fun n=>by rw [zna];exact ⟨lt_resp _,by rw [zmn];trivial,trivial⟩)
  have d1:decide ((b.length:Int) > 1048576)=false:=decide_eq_false (by omega)
  refine ACalls.of_aw (Ω:=[(102,Ent.effect e_xUint),(103,Ent.effect e_xBool),(104,Ent.effect e_xCount),(105,Ent.effect e_rRead10),(106,Ent.effect e_xBytes),(107,Ent.pure p_xFinish)]) (T:=assoc [(10,[[],[],[],[],[3],[1,3],[],[1,3]]),(3,[[10]]),(7,[[1]]),(11,[[1]])]) mixed (TblOk.cons ok_xUint (TblOk.cons ok_xBool (TblOk.cons ok_xCount (TblOk.cons ok_rRead10 (TblOk.cons ok_xBytes (TblOk.cons ok_xFinish TblOk.nil)))))) Tryz.func25 (by kernel_rfl) (by rfl) (rs:=[.cell 2 60,.tmp 3]) (by rfl) (by kernel_rfl) (by simp only [Tryz.ntmps25,yaz,yba];decide) (Nat.le_refl _) fun hcl hlt=>?_
  change aw _ _ _ (KI Tryz.prog [(102,Ent.effect e_xUint),(103,Ent.effect e_xBool),(104,Ent.effect e_xCount),(105,Ent.effect e_rRead10),(106,Ent.effect e_xBytes),(107,Ent.pure p_xFinish)] (aEnd Tryz.prog [.cell 2 60,.tmp 3] H.nx _ _ (assoc [(10,[[],[],[],[],[3],[1,3],[],[1,3]]),(3,[[10]]),(7,[[1]]),(11,[[1]])])) []) _ _
  clear hlt
  simp only [blkE,blkP,bhq,Nat.reduceMod,Nat.reduceDiv,stepH,stepM,toMs1,toMs,toMs0,strK,pubK,pubF,pubV,yaq,yar,yao,yap,go_sem,byq,d1]
  refine ⟨⟨by omega,by omega⟩,?_⟩
  refine weak_slot 16 (.slice .any 1 (bys b)) ?_ ?_
  · simp [Fr.get,wkD_slice,wkDL_cons,wkDL_nil,wkDR_cons,wkDR_nil,wkM,wkDR_same]
  simp only [blkE,blkP,bhq,Nat.reduceMod,Nat.reduceDiv,stepH,stepM,toMs1,toMs,toMs0,strK,pubK,pubF,pubV,yaq,yar,yao,yap,go_sem,byq,d1,onR,onRo_some,cellR,Int.reduceBEq,vv,vc,List.set_cons_succ,List.set_cons_zero,hb,b0,b1,b2,b3,b4,b5,b6,b7,b8,b9,b10,h0',h1',h2',h3',h5',h7',h8',h9',h10',e_xUint,e_xBool,e_xCount,e_xBytes,p_xFinish,hF',ybb]
  refine weak_cell 5 3 5 (cs:=[.int .i64 v0,.int .i64 v1,.bool v2,.slice .nil 1 [],.slice .nil 1 [],.bool false,.int .i64 0,.int .i64 0,.slice .nil 1 []]) rfl (by simp only [go_sem]) rfl ?_
  simp only [blkE,blkP,bhq,Nat.reduceMod,Nat.reduceDiv,stepH,stepM,toMs1,toMs,toMs0,strK,pubK,pubF,pubV,yaq,yar,yao,yap,go_sem,byq,d1,onR,onRo_some,cellR,Int.reduceBEq,vv,vc,List.set_cons_succ,List.set_cons_zero,hb,b0,b1,b2,b3,b4,b5,b6,b7,b8,b9,b10,h0',h1',h2',h3',h5',h7',h8',h9',h10',e_xUint,e_xBool,e_xCount,e_xBytes,p_xFinish,hF',ybb]
  have hc1:∀ (l':List UInt8) (e':Int) (es:List SEntry),((((((H.push (.cells [.int .i64 0,.int .i64 0,.bool false,.slice .nil 1 [],.slice .nil 1 [],.bool false,.int .i64 0,.int .i64 0,.slice .nil 1 []])).push (.buf 1 b.length))).push (.cells [.slice .any 1 (bys l'),.int .i64 e'])).push (.cells [.int .i64 v0,.int .i64 v1,.bool v2,.slice (.own (H.nx+1+1+1+1)) 5 (es.map entryAV),.slice .nil 1 [],.bool false,.int .i64 0,.int .i64 0,.slice .nil 1 []])).push (.buf 5 es.length)).Closed:=fun l' e' es=>by
    have h0:((((((H.push (.cells [.int .i64 0,.int .i64 0,.bool false,.slice .nil 1 [],.slice .nil 1 [],.bool false,.int .i64 0,.int .i64 0,.slice .nil 1 []])).push (.buf 1 b.length))).push (.cells [.slice .any 1 (bys l'),.int .i64 e'])).push (.cells [])).push (.buf 5 es.length)).Closed:=by
      repeat' (first | exact hcl | refine closed_buf ?_ | refine closed_cells ?_ ?_)
      all_goals first | trivial | simp [lt_sliceL,znc,znd,zmn,zmo,zlx]
    have h1:=closed_set (i:=H.nx+1+1+1) (cs:=[.int .i64 v0,.int .i64 v1,.bool v2,.slice (.own (H.nx+1+1+1+1)) 5 (es.map entryAV),.slice .nil 1 [],.bool false,.int .i64 0,.int .i64 0,.slice .nil 1 []]) h0 (by
      simp [znc,znd,zmn,zmo,zkm,zkn,lt_sliceL]
      exact ltL_iff.2 fun j hj=>by rw [List.getElem_map];exact lt_entry _)
    simp only [go_sem] at h1
    exact h1
  refine loop_introW (A:=List SEntry × (List UInt8 × Int)) (fun x=>[(2,.ptr H.nx 0),(4,.ptr (H.nx+1+1) 0),(5,.ptr (H.nx+1+1+1) 0),(6,.int .i64 ((k3 - x.1.length:Nat):Int))]) (fun x=>((((((H.push (.cells [.int .i64 0,.int .i64 0,.bool false,.slice .nil 1 [],.slice .nil 1 [],.bool false,.int .i64 0,.int .i64 0,.slice .nil 1 []])).push (.buf 1 b.length))).push (.cells [.slice .any 1 (bys x.2.1),.int .i64 x.2.2])).push (.cells [.int .i64 v0,.int .i64 v1,.bool v2,.slice (.own (H.nx+1+1+1+1)) 5 (x.1.map entryAV),.slice .nil 1 [],.bool false,.int .i64 0,.int .i64 0,.slice .nil 1 []])).push (.buf 5 x.1.length))) (fun x=>x.1.length≤k3∧(x.1++(readEs (k3 - x.1.length) (.any,x.2.1,x.2.2)).1,(readEs (k3 - x.1.length) (.any,x.2.1,x.2.2)).2)=(v4,.any,l4,e4)∧x.2.1.length≤100000) (fun x=>k3 - x.1.length) ([],(l3,e3)) ⟨Nat.zero_le _,by rw [yba,Nat.sub_zero,h4',yak],b3⟩ ?_ fun x hx=>?_
  · refine ⟨by simp only [zjy,zkd,zkm,zkn];omega,AHeap.Le.refl _,hc1 _ _ _,?_,?_⟩
    · simp [ltF,zmn,zmv,zkm,zkn]
      try omega
    · simp [subW,wk2,wk1,wkM,Fr.get]
  obtain ⟨us,lx,ex⟩:=x
  obtain ⟨hx1,hx2,hx3⟩:=hx
  dsimp only at hx1 hx2 hx3 ⊢
  simp only [go_sem]
  refine cond_split (fun hc=>?_) (fun hc=>?_)
  · have hk':us.length<k3:=by simp at hc;omega
    have e5:IntKind.i64.wrap (((k3 - us.length:Nat):Int) - 1)=((k3 - (us.length+1):Nat):Int):=by rw [wrap_i64]<;>omega
    have hk2:k3 - us.length=(k3 - (us.length+1))+1:=by omega
    have hu:readEs (k3 - us.length) (.any,lx,ex)=((readE (.any,lx,ex)).1::(readEs (k3 - (us.length+1)) (readE (.any,lx,ex)).2).1,(readEs (k3 - (us.length+1)) (readE (.any,lx,ex)).2).2):=by rw [hk2];rfl
    rw [hu] at hx2
    have hg3:=readE_go (.any,lx,ex)
    generalize hq3:readE (.any,lx,ex)=q3 at *
    obtain ⟨en,m3,lz,ez⟩:=q3
    obtain ⟨hlz,hmz⟩:=hg3
    have hmz:=any_of hmz
    subst hmz
    dsimp only at hx2 hlz
    have b3:lz.length≤100000:=by omega
    have hlen:(us++[en]).length=us.length+1:=by simp
    simp only [blkE,blkP,bhq,Nat.reduceMod,Nat.reduceDiv,stepH,stepM,toMs1,toMs,toMs0,strK,pubK,pubF,pubV,yaq,yar,yao,yap,go_sem,byq,d1,onR,onRo_some,cellR,Int.reduceBEq,vv,vc,List.set_cons_succ,List.set_cons_zero,hb,b0,b1,b2,b3,b4,b5,b6,b7,b8,b9,b10,h0',h1',h2',h3',h5',h7',h8',h9',h10',e_xUint,e_xBool,e_xCount,e_xBytes,p_xFinish,hF',ybb,hx3,hq3,e_rRead10,b3,e5,entryAV,entryC]
    refine ⟨⟨by omega,by omega,fun z hz=>by rw [List.mem_singleton] at hz;subst hz;rfl⟩,(us++[en],(lz,ez)),⟨by dsimp only;omega,by dsimp only;rw [hlen,← hx2];simp [List.append_assoc],by dsimp only;omega⟩,by dsimp only;omega,?_⟩
    refine ⟨by simp only [zkm,zkn];omega,?_,hc1 _ _ _,?_,?_⟩
    · simp only [List.map_append,yae,yaf,entryAV,entryC,List.length_append,yaz,yba,yal,yak]
      repeat (first | exact AHeap.Le.refl _ | refine AHeap.Le.push ?_ _)
    · simp [ltF,zmn,zmv,zkm,zkn]
      try omega
    · simp [subW,wk2,wk1,wkM,Fr.get]
  have hk':us.length=k3:=by simp at hc;omega
  rw [hk',Nat.sub_self] at hx2
  simp only [readEs,yaj,Prod.mk.injEq,true_and] at hx2
  obtain ⟨rfl,rfl,rfl⟩:=hx2
  clear hc hx3
  rename List SEntry=>es0
  simp only [blkE,blkP,bhq,Nat.reduceMod,Nat.reduceDiv,stepH,stepM,toMs1,toMs,toMs0,strK,pubK,pubF,pubV,yaq,yar,yao,yap,go_sem,byq,d1,onR,onRo_some,cellR,Int.reduceBEq,vv,vc,List.set_cons_succ,List.set_cons_zero,hb,b0,b1,b2,b3,b4,b5,b6,b7,b8,b9,b10,h0',h1',h2',h3',h5',h7',h8',h9',h10',e_xUint,e_xBool,e_xCount,e_xBytes,p_xFinish,hF',ybb]
  refine weak_cell 5 4 7 (cs:=[.int .i64 v0,.int .i64 v1,.bool v2,.slice (.own (H.nx+1+1+1+1)) 5 (es0.map entryAV),.slice .nil 1 [],.bool false,.int .i64 0,.int .i64 0,.slice .nil 1 []]) rfl (by simp only [go_sem]) rfl ?_
  simp only [blkE,blkP,bhq,Nat.reduceMod,Nat.reduceDiv,stepH,stepM,toMs1,toMs,toMs0,strK,pubK,pubF,pubV,yaq,yar,yao,yap,go_sem,byq,d1,onR,onRo_some,cellR,Int.reduceBEq,vv,vc,List.set_cons_succ,List.set_cons_zero,hb,b0,b1,b2,b3,b4,b5,b6,b7,b8,b9,b10,h0',h1',h2',h3',h5',h7',h8',h9',h10',e_xUint,e_xBool,e_xCount,e_xBytes,p_xFinish,hF',ybb]
  have hc2:∀ (l':List UInt8) (e':Int) (rs:List SRec),(((((((H.push (.cells [.int .i64 0,.int .i64 0,.bool false,.slice .nil 1 [],.slice .nil 1 [],.bool false,.int .i64 0,.int .i64 0,.slice .nil 1 []])).push (.buf 1 b.length))).push (.cells [.slice .any 1 (bys l'),.int .i64 e'])).push (.cells [.int .i64 v0,.int .i64 v1,.bool v2,.slice (.own (H.nx+1+1+1+1)) 5 (es0.map entryAV),.slice (.own (H.nx+1+1+1+1+1)) 7 (rs.map recAV),.bool false,.int .i64 0,.int .i64 0,.slice .nil 1 []])).push (.buf 5 es0.length)).push (.buf 7 rs.length)).Closed:=fun l' e' rs=>by
    have h0:(((((((H.push (.cells [.int .i64 0,.int .i64 0,.bool false,.slice .nil 1 [],.slice .nil 1 [],.bool false,.int .i64 0,.int .i64 0,.slice .nil 1 []])).push (.buf 1 b.length))).push (.cells [.slice .any 1 (bys l'),.int .i64 e'])).push (.cells [])).push (.buf 5 es0.length)).push (.buf 7 rs.length)).Closed:=by
      repeat' (first | exact hcl | refine closed_buf ?_ | refine closed_cells ?_ ?_)
      all_goals first | trivial | simp [lt_sliceL,znc,znd,zmn,zmo,zlx]
    have h1:=closed_set (i:=H.nx+1+1+1) (cs:=[.int .i64 v0,.int .i64 v1,.bool v2,.slice (.own (H.nx+1+1+1+1)) 5 (es0.map entryAV),.slice (.own (H.nx+1+1+1+1+1)) 7 (rs.map recAV),.bool false,.int .i64 0,.int .i64 0,.slice .nil 1 []]) h0 (by
      simp [znc,znd,zmn,zmo,zkm,zkn,lt_sliceL]
      exact ⟨ltL_iff.2 fun j hj=>by rw [List.getElem_map];exact lt_entry _,ltL_iff.2 fun j hj=>by rw [List.getElem_map];exact lt_rec _⟩)
    simp only [go_sem] at h1
    exact h1
  refine loop_introW (A:=List SRec × (List UInt8 × Int)) (fun x=>[(2,.ptr H.nx 0),(4,.ptr (H.nx+1+1) 0),(5,.ptr (H.nx+1+1+1) 0),(7,.int .i64 ((k5 - x.1.length:Nat):Int))]) (fun x=>(((((((H.push (.cells [.int .i64 0,.int .i64 0,.bool false,.slice .nil 1 [],.slice .nil 1 [],.bool false,.int .i64 0,.int .i64 0,.slice .nil 1 []])).push (.buf 1 b.length))).push (.cells [.slice .any 1 (bys x.2.1),.int .i64 x.2.2])).push (.cells [.int .i64 v0,.int .i64 v1,.bool v2,.slice (.own (H.nx+1+1+1+1)) 5 (es0.map entryAV),.slice (.own (H.nx+1+1+1+1+1)) 7 (x.1.map recAV),.bool false,.int .i64 0,.int .i64 0,.slice .nil 1 []])).push (.buf 5 es0.length)).push (.buf 7 x.1.length))) (fun x=>x.1.length≤k5∧(x.1++(readRs (k5 - x.1.length) (.any,x.2.1,x.2.2)).1,(readRs (k5 - x.1.length) (.any,x.2.1,x.2.2)).2)=(v6,.any,l6,e6)∧x.2.1.length≤100000) (fun x=>k5 - x.1.length) ([],(l5,e5)) ⟨Nat.zero_le _,by rw [yba,Nat.sub_zero,h6',yak],b5⟩ ?_ fun x hx=>?_
  · refine ⟨by simp only [zjy,zkd,zkm,zkn];omega,AHeap.Le.refl _,hc2 _ _ _,?_,?_⟩
    · simp [ltF,zmn,zmv,zkm,zkn]
      try omega
    · simp [subW,wk2,wk1,wkM,Fr.get]
  obtain ⟨us,lx,ex⟩:=x
  obtain ⟨hx1,hx2,hx3⟩:=hx
  dsimp only at hx1 hx2 hx3 ⊢
  simp only [go_sem]
  refine cond_split (fun hc=>?_) (fun hc=>?_)
  · have hk':us.length<k5:=by simp at hc;omega
    have e5:IntKind.i64.wrap (((k5 - us.length:Nat):Int) - 1)=((k5 - (us.length+1):Nat):Int):=by rw [wrap_i64]<;>omega
    have hk2:k5 - us.length=(k5 - (us.length+1))+1:=by omega
    have hu:readRs (k5 - us.length) (.any,lx,ex)=((readRec (.any,lx,ex)).1::(readRs (k5 - (us.length+1)) (readRec (.any,lx,ex)).2).1,(readRs (k5 - (us.length+1)) (readRec (.any,lx,ex)).2).2):=by rw [hk2];rfl
    rw [hu] at hx2
    unfold readRec at hx2
    dsimp only at hx2
    have hz0:=uintR_l .any lx ex 4
    generalize hr0:uintR (.any,lx,ex) 4=q0 at *
    obtain ⟨u0,m0,y0,z0⟩:=q0
    have hn0:=any_of (uintR_m' hr0)
    subst hn0
    dsimp only at hx2 hz0
    have by0:y0.length≤100000:=by omega
    have hz1:=uintR_l .any y0 z0 1
    generalize hr1:uintR (.any,y0,z0) 1=q1 at *
    obtain ⟨u1,m1,y1,z1⟩:=q1
    have hn1:=any_of (uintR_m' hr1)
    subst hn1
    dsimp only at hx2 hz1
    have by1:y1.length≤100000:=by omega
    have hz2:=uintR_l .any y1 z1 2
    generalize hr2:uintR (.any,y1,z1) 2=q2 at *
    obtain ⟨u2,m2,y2,z2⟩:=q2
    have hn2:=any_of (uintR_m' hr2)
    subst hn2
    dsimp only at hx2 hz2
    have by2:y2.length≤100000:=by omega
    have hz3:=uintR_l .any y2 z2 1
    generalize hr3:uintR (.any,y2,z2) 1=q3 at *
    obtain ⟨u3,m3,y3,z3⟩:=q3
    have hn3:=any_of (uintR_m' hr3)
    subst hn3
    dsimp only at hx2 hz3
    have by3:y3.length≤100000:=by omega
    have hz4:=uintR_l .any y3 z3 1
    generalize hr4:uintR (.any,y3,z3) 1=q4 at *
    obtain ⟨u4,m4,y4,z4⟩:=q4
    have hn4:=any_of (uintR_m' hr4)
    subst hn4
    dsimp only at hx2 hz4
    have by4:y4.length≤100000:=by omega
    have hz5:=uintR_l .any y4 z4 2
    generalize hr5:uintR (.any,y4,z4) 2=q5 at *
    obtain ⟨u5,m5,y5,z5⟩:=q5
    have hn5:=any_of (uintR_m' hr5)
    subst hn5
    dsimp only at hx2 hz5
    have by5:y5.length≤100000:=by omega
    have hz6:=uintR_l .any y5 z5 2
    generalize hr6:uintR (.any,y5,z5) 2=q6 at *
    obtain ⟨u6,m6,y6,z6⟩:=q6
    have hn6:=any_of (uintR_m' hr6)
    subst hn6
    dsimp only at hx2 hz6
    have by6:y6.length≤100000:=by omega
    have hlen:(us++[(⟨u0,u1,u2,u3,u4,u5,u6⟩:SRec)]).length=us.length+1:=by simp
    simp only [blkE,blkP,bhq,Nat.reduceMod,Nat.reduceDiv,stepH,stepM,toMs1,toMs,toMs0,strK,pubK,pubF,pubV,yaq,yar,yao,yap,go_sem,byq,d1,onR,onRo_some,cellR,Int.reduceBEq,vv,vc,List.set_cons_succ,List.set_cons_zero,hb,b0,b1,b2,b3,b4,b5,b6,b7,b8,b9,b10,h0',h1',h2',h3',h5',h7',h8',h9',h10',e_xUint,e_xBool,e_xCount,e_xBytes,p_xFinish,hF',ybb,hx3,hr0,by0,hr1,by1,hr2,by2,hr3,by3,hr4,by4,hr5,by5,hr6,by6,e5,recAV,recC]
    refine ⟨⟨by omega,by omega,fun z hz=>by rw [List.mem_singleton] at hz;subst hz;rfl⟩,(us++[⟨u0,u1,u2,u3,u4,u5,u6⟩],(y6,z6)),⟨by dsimp only;omega,by dsimp only;rw [hlen,← hx2];simp [List.append_assoc],by dsimp only;omega⟩,by dsimp only;omega,?_⟩
    refine ⟨by simp only [zkm,zkn];omega,?_,hc2 _ _ _,?_,?_⟩
    · simp only [List.map_append,yae,yaf,recAV,recC,List.length_append,yaz,yba,yal,yak]
      repeat (first | exact AHeap.Le.refl _ | refine AHeap.Le.push ?_ _)
    · simp [ltF,zmn,zmv,zkm,zkn]
      try omega
    · simp [subW,wk2,wk1,wkM,Fr.get]
  have hk':us.length=k5:=by simp at hc;omega
  rw [hk',Nat.sub_self] at hx2
  simp only [readRs,yaj,Prod.mk.injEq,true_and] at hx2
  obtain ⟨rfl,rfl,rfl⟩:=hx2
  clear hc hx3
  simp only [blkE,blkP,bhq,Nat.reduceMod,Nat.reduceDiv,stepH,stepM,toMs1,toMs,toMs0,strK,pubK,pubF,pubV,yaq,yar,yao,yap,go_sem,byq,d1,onR,onRo_some,cellR,Int.reduceBEq,vv,vc,List.set_cons_succ,List.set_cons_zero,hb,b0,b1,b2,b3,b4,b5,b6,b7,b8,b9,b10,h0',h1',h2',h3',h5',h7',h8',h9',h10',e_xUint,e_xBool,e_xCount,e_xBytes,p_xFinish,hF',ybb]
  refine cond_split (fun hf=>?_) (fun hf=>?_)
  · have hf':F≠0:=by simpa using hf
    rw [if_pos hf'] at hD
    subst hD
    simp only [go_sem,byq]
    refine ⟨?_,by repeat (first | exact AHeap.Le.refl _ | refine AHeap.Le.push ?_ _),hcl,ht _ _ _⟩
    simp [wk,wkLL,wk2,wkL,wk1,wkM,respAV,respC,zResp,zkt]
  · have hf':F=0:=by simpa using hf
    rw [if_neg (by rw [hf'];decide)] at hD
    subst hD
    simp only [go_sem,byq]
    refine ⟨?_,by repeat (first | exact AHeap.Le.refl _ | refine AHeap.Le.push ?_ _),hcl,ht _ _ _⟩
    simp [wk,wkLL,wk2,wkL,wk1,wkM,respAV,respC,zResp,zkt]
end Go.AL

