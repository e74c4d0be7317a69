/- Contracts and plain laws, a part of the proof; no condition of its own. -/
import Derived.Test.YthpglnacipgolaaGreatM19d
open List renaming length_cons → yaz, length_nil → yba, length_map → ybb, take_zero → yar, append_nil → yaj, take_of_length_le → ybc, drop_append → ybd, take_append → ybe, drop_eq_nil_of_le → ybf, map_nil → yaf
open Go Go.AL Go.Proofs
namespace Go.AL
set_option linter.all false
set_option maxRecDepth 10000

theorem entH19_eq {H:AHeap} {id q:Nat} {b:List UInt8} {wr:Bool} {e:SEntry}:entH19 H id q b wr e=wrH H id q (b++if rgE e then wEntry e else []) (wr||!rgE e):=by
  unfold entH19
  cases rgE e<;>simp
theorem bodyU_len {u:Int × SEntry} (h:COk u.2):(bodyU u).length≤404:=by
  unfold bodyU
  rw [List.length_append]
  have h1:=wUint_len u.1 1
  split
  · rename_i hr
    obtain ⟨r1,r2⟩:=rgE_len hr
    have:=wEntry_len4 h r1 r2
    omega
  · simp;omega
theorem bodyUs_len:∀ (l:List (Int × SEntry)),(∀ u∈l,COk u.2)→(l.flatMap bodyU).length≤404*l.length
  | [],_=>by simp
  | u::l,h=>by
    rw [List.flatMap_cons,List.length_append,yaz]
    have:=bodyU_len (h u List.mem_cons_self)
    have:=bodyUs_len l fun x hx=>h x (List.mem_cons_of_mem _ hx)
    omega
def e_wr3:List AV→AHeap→(AEnd→AHeap→Prop)→Prop
  | [.ptr id 0,.agg l],H,K=>∃ q b wr r,(WOn H id q b wr∧l=reqC r∧ROk r∧b.length≤1000)∧K (.ret (.tup [])) (wrH H id q (b++bodyR 3 r) (wr||badR 3 r))
  | _,_,_=>False
set_option maxHeartbeats 4000000 in
theorem ok_wr3:EntOk Tryz.prog 265 (Ent.effect e_wr3):=by
  refine EntOk.effect fun args H K h=>?_
  unfold e_wr3 at h
  split at h
  rotate_left
  · exact h.elim
  rename_i id l
  obtain ⟨q,b,wr,r,⟨hW,rfl,hr,hb⟩,hK⟩:=h
  refine ⟨_,_,hK,?_⟩
  clear hK
  have hid:=AHeap.get_lt hW.o
  have hq:=AHeap.get_lt hW.bu
  have iv:=isV_of hr.el
  have lv:=wValue_len hr.el
  have ln:=fun n w=>wUint_len n w
  have hul:=hr.ul
  refine ACalls.of_aw (Ω:=[(81,Ent.effect e_wNum),(259,Ent.effect e_wVal),(83,Ent.effect e_wEnt)]) (T:=assoc []) mixed (TblOk.cons ok_wNum (TblOk.cons ok_wVal (TblOk.cons ok_wEnt TblOk.nil))) Tryz.func265 (by kernel_rfl) (by rfl) (rs:=[]) (by rfl) (by kernel_rfl) (by simp only [Tryz.ntmps265,yaz,yba];decide) (by rw [wrH_nx];omega) fun hcl hlt=>?_
  change aw _ _ _ (KI Tryz.prog [(81,Ent.effect e_wNum),(259,Ent.effect e_wVal),(83,Ent.effect e_wEnt)] (aEnd Tryz.prog [] H.nx _ _ (assoc [])) []) _ _
  clear hlt
  have hcl0:=fun b' wr'=>hW.closed (b':=b') (wr':=wr') hcl
  simp only [go_sem,byq,reqC,e_wNum,e_wVal]
  refine ⟨q,b,wr,hW.push _,?_⟩
  rw [wrH_push ?_ ?_]
  rotate_left
  · exact hid
  · exact hq
  have hl1:(b++wUint r.role 2).length≤1004:=by rw [List.length_append];have:=ln r.role 2;omega
  have hW1:WOn (wrH H id q (b++wUint r.role 2) (wr||!rg r.role 2)) id q (b++wUint r.role 2) (wr||!rg r.role 2):=hW.next (by omega)
  simp only [go_sem,byq,wrH_nx,reqC,e_wNum,e_wVal]
  refine ⟨q,_,_,⟨hW1.push _,of_eq_true iv⟩,?_⟩
  rw [wrH_push ?_ ?_]
  rotate_left
  · exact hid
  · exact hq
  simp only [Int.toNat_natCast,vOf_back]
  rw [wrH_wrH hW.ne]
  have hl2:(b++wUint r.role 2++wValue r.el).length≤1030:=by rw [List.length_append];omega
  have hW2:WOn (wrH H id q (b++wUint r.role 2++wValue r.el) (wr||!rg r.role 2)) id q (b++wUint r.role 2++wValue r.el) (wr||!rg r.role 2):=hW.next (by omega)
  simp only [go_sem,byq,wrH_nx,reqC,e_wNum,e_wVal,ybb]
  refine ⟨q,_,_,hW2.push _,?_⟩
  rw [wrH_push ?_ ?_]
  rotate_left
  · exact hid
  · exact hq
  rw [wrH_wrH hW.ne]
  obtain ⟨B0,hB0⟩:∃ B0,B0=b++wUint r.role 2++wValue r.el++wUint (r.ups.length:Int) 2:=⟨_,rfl⟩
  obtain ⟨W0,hW0⟩:∃ W0,W0=(wr||!rg r.role 2||!rg (r.ups.length:Int) 2):=⟨_,rfl⟩
  have eb:b++bodyR 3 r=B0++r.ups.flatMap bodyU:=by
    rw [hB0]
    show b++(wUint r.role 2++wValue r.el++wUint r.ups.length 2++r.ups.flatMap bodyU)=_
    simp [List.append_assoc]
  have ew:(wr||badR 3 r)=(W0||r.ups.any badU):=by
    rw [hW0]
    show (wr||(!rg r.role 2||!rg r.ups.length 2||r.ups.any badU))=_
    simp [Bool.or_assoc]
  have hl3:B0.length≤1040:=by rw [hB0,List.length_append];have:=ln r.ups.length 2;omega
  rw [eb,ew,← hB0,← hW0]
  clear eb ew hB0 hW0 hW1 hW2 hl1 hl2
  simp only [go_sem,byq,wrH_nx,reqC,ybb]
  refine loop_introW (A:=Nat) (fun k=>[(0,.ptr id 0),(20,.slice .any 6 (r.ups.map updAV)),(21,.int .i64 (r.ups.length:Int)),(22,.int .i64 (k:Int))]) (fun k=>wrH H id q (B0++(r.ups.take k).flatMap bodyU) (W0||(r.ups.take k).any badU)) (fun k=>k≤r.ups.length) (fun k=>r.ups.length - k) 0 (by omega) ?_ fun k hk=>?_
  · rw [yar,List.flatMap_nil,yaj,List.any_nil,Bool.or_false]
    refine ⟨by simp only [zjy,zkd,wrH_nx];omega,by repeat (first | exact AHeap.Le.refl _ | refine AHeap.Le.push ?_ _),hcl0 _ _,?_,?_⟩
    · simp [ltF,wrH_nx,zmv,zmn,lt_map lt_upd]
      omega
    · simp [subW,wk2,wk1,wkM,Fr.get]
  simp only [go_sem]
  have hlk:(B0++(r.ups.take k).flatMap bodyU).length≤1040+404*k:=by
    rw [List.length_append]
    have:=bodyUs_len (r.ups.take k) fun x hx=>hr.uo x (List.mem_of_mem_take hx)
    rw [List.length_take] at this
    omega
  refine cond_split (fun hc=>?_) (fun hc=>?_)
  · have hk':k<r.ups.length:=by simp at hc;omega
    obtain ⟨x,hx⟩:∃ x,x=r.ups[k]:=⟨_,rfl⟩
    have hg:=getD_map (f:=updAV) (l:=r.ups) (k:=k) (x:=x) (by rw [List.getElem?_eq_getElem hk',hx])
    have e5:IntKind.i64.wrap ((k:Int)+1)=((k+1:Nat):Int):=by rw [wrap_i64]<;>omega
    have hxo:=hr.uo x (by rw [hx];exact List.getElem_mem hk')
    have et:r.ups.take (k+1)=r.ups.take k++[x]:=by rw [hx,List.take_succ_eq_append_getElem hk']
    have eb:B0++(r.ups.take (k+1)).flatMap bodyU=B0++(r.ups.take k).flatMap bodyU++wUint x.1 1++(if rgE x.2 then wEntry x.2 else []):=by
      rw [et,List.flatMap_append,List.flatMap_cons,List.flatMap_nil,yaj]
      unfold bodyU
      simp [List.append_assoc]
    have ew:(W0||(r.ups.take (k+1)).any badU)=(W0||(r.ups.take k).any badU||!rg x.1 1||!rgE x.2):=by
      rw [et,List.any_append,List.any_cons,List.any_nil,Bool.or_false]
      unfold badU
      simp [Bool.or_assoc]
    generalize B0++(r.ups.take k).flatMap bodyU=Bk at *
    generalize (W0||(r.ups.take k).any badU)=Wk at *
    have hWk:WOn (wrH H id q Bk Wk) id q Bk Wk:=hW.next (by omega)
    have hlk2:(Bk++wUint x.1 1).length≤10000000:=by rw [List.length_append];have:=ln x.1 1;omega
    have hWk2:WOn (wrH H id q (Bk++wUint x.1 1) (Wk||!rg x.1 1)) id q (Bk++wUint x.1 1) (Wk||!rg x.1 1):=hW.next hlk2
    obtain ⟨xk,xe⟩:=x
    have hxe:COk xe:=hxo
    dsimp only at eb ew hWk2
    have hC:=lt_entry (n:=(0:Nat)) xe
    simp only [go_sem,Int.toNat_natCast,ybb,hg,updAV,updC,entryC,wrH_nx,e_wNum,e_wEnt]
    (repeat with_reducible refine And.intro (by first | assumption | decide | omega) ?_)
    refine ⟨q,Bk,Wk,hWk.push _,?_⟩
    rw [wrH_push ?_ ?_]
    rotate_left
    · exact hid
    · exact hq
    rw [wrH_wrH hW.ne]
    simp only [go_sem,Int.toNat_natCast,ybb,updAV,updC,entryC,wrH_nx,e_wNum,e_wEnt]
    refine ⟨q,_,_,xe,⟨hWk2.push _,rfl,hxe⟩,?_⟩
    rw [entH19_eq,wrH_push ?_ ?_]
    rotate_left
    · exact hid
    · exact hq
    rw [wrH_wrH hW.ne,← eb,← ew]
    simp only [go_sem,e5]
    refine ⟨k+1,by omega,by omega,by simp only [zkm,wrH_nx];omega,by repeat (first | exact AHeap.Le.refl _ | refine AHeap.Le.push ?_ _),hcl0 _ _,?_,?_⟩
    · simp [ltF,wrH_nx,zmv,zmn,lt_map lt_upd]
      omega
    · simp [subW,wk2,wk1,wkM,Fr.get]
  · have hk':k=r.ups.length:=by simp at hc;omega
    subst hk'
    rw [List.take_length]
    simp only [go_sem]
    refine ⟨?_,by repeat (first | exact AHeap.Le.refl _ | refine AHeap.Le.push ?_ _),hcl0 _ _,?_⟩
    · simp [wk,wk2,wk1,wkLL]
    · simp [zna,znd]
end Go.AL


open Go Go.AL Go.Proofs
namespace Go.AL
set_option linter.all false
set_option maxRecDepth 10000

def p_bEqual:List AV→AHeap→(AV→Prop)→Prop
  | [.slice _ 1 l,.slice _ 1 k],_,K=>∃ a b:List UInt8,(l=bys a∧k=bys b)∧K (.bool (a==b))
  | _,_,_=>False
theorem ok_bEqual:EntOk Tryz.prog 152 (Ent.pure p_bEqual):=by
  refine EntOk.pure fun args H K h=>?_
  unfold p_bEqual at h
  split at h
  rotate_left
  · exact h.elim
  rename_i m1 l m2 k
  obtain ⟨a,b,⟨rfl,rfl⟩,hK⟩:=h
  refine ⟨_,hK,?_⟩
  clear hK
  refine ACalls.of_aw (Ω:=[]) (T:=assoc []) mixed TblOk.nil Tryz.func152 (by kernel_rfl) (by rfl) (rs:=[.tmp 4]) (by rfl) (by kernel_rfl) (by simp only [Tryz.ntmps152,yaz,yba];decide) (Nat.le_refl _) fun hcl hlt=>?_
  change aw _ _ _ (KI Tryz.prog [] (aEnd Tryz.prog [.tmp 4] H.nx _ _ (assoc [])) []) _ _
  clear hlt
  simp only [go_sem,byq]
  simp (disch:=first | assumption | omega | (simp;done) | (simp;omega) | (simp only [bt,and_true];first | done | omega | (simp;done))) [↓zlw,beq,ybc,ybd,ybe,endOk,wk,wk2,wk1,wkM,wkL,wkLL,ybf,hcl]
def eqL {α:Type} (p:α→α→Bool):List α→List α→Bool
  | [],[]=>true
  | x::xs,y::ys=>p x y&&eqL p xs ys
  | _,_=>false
theorem eqL_len {α:Type} {p:α→α→Bool}:∀ {xs ys:List α},xs.length≠ys.length→eqL p xs ys=false
  | [],[],h=>absurd rfl h
  | [],_::_,_=>rfl
  | _::_,[],_=>rfl
  | x::xs,y::ys,h=>by
    unfold eqL
    rw [eqL_len (p:=p) (xs:=xs) (ys:=ys) (by simpa using h),Bool.and_false]
def eqE (e f:SEntry):Bool:=cmpE e f==0
theorem eqE_iff (e f:SEntry):eqE e f=true↔e=f:=by unfold eqE;rw [beq_iff_eq,cmpE_eq]
def eqU (u v:Int × SEntry):Bool:=(u.1==v.1)&&eqE u.2 v.2
def p_uSame:List AV→AHeap→(AV→Prop)→Prop
  | [.agg l,.agg k],_,K=>∃ u v:Int × SEntry,(l=updC u∧k=updC v∧COk u.2∧COk v.2)∧K (.bool (eqU u v))
  | _,_,_=>False
theorem ok_uSame:EntOk Tryz.prog 149 (Ent.pure p_uSame):=by
  refine EntOk.pure fun args H K h=>?_
  unfold p_uSame at h
  split at h
  rotate_left
  · exact h.elim
  rename_i l k
  obtain ⟨u,v,⟨rfl,rfl,hu,hv⟩,hK⟩:=h
  refine ⟨_,hK,?_⟩
  clear hK
  obtain ⟨a,e⟩:=u
  obtain ⟨b,f⟩:=v
  dsimp only at hu hv
  unfold eqU
  dsimp only
  cases h1:(a==b)
  · rw [Bool.false_and]
    refine ACalls.of_aw (Ω:=[(150,Ent.pure p_eSame)]) (T:=assoc []) mixed (TblOk.cons ok_eSame TblOk.nil) Tryz.func149 (by kernel_rfl) (by rfl) (rs:=[.tmp 4]) (by rfl) (by kernel_rfl) (by simp only [Tryz.ntmps149,yaz,yba];decide) (Nat.le_refl _) fun hcl hlt=>?_
    change aw _ _ _ (KI Tryz.prog [(150,Ent.pure p_eSame)] (aEnd Tryz.prog [.tmp 4] H.nx _ _ (assoc [])) []) _ _
    clear hlt
    simp only [go_sem,updC,entryC,h1]
    simp (disch:=first | assumption | omega | (simp;done) | (simp;omega) | (simp only [bt,and_true];first | done | omega | (simp;done))) [↓zlw,beq,ybc,ybd,ybe,endOk,wk,wk2,wk1,wkM,wkL,wkLL,ybf,hcl]
    first | done | repeat (first | exact AHeap.Le.refl _ | refine AHeap.Le.push ?_ _)
  · rw [Bool.true_and]
    refine ACalls.of_aw (Ω:=[(150,Ent.pure p_eSame)]) (T:=assoc []) mixed (TblOk.cons ok_eSame TblOk.nil) Tryz.func149 (by kernel_rfl) (by rfl) (rs:=[.tmp 4]) (by rfl) (by kernel_rfl) (by simp only [Tryz.ntmps149,yaz,yba];decide) (Nat.le_refl _) fun hcl hlt=>?_
    change aw _ _ _ (KI Tryz.prog [(150,Ent.pure p_eSame)] (aEnd Tryz.prog [.tmp 4] H.nx _ _ (assoc [])) []) _ _
    clear hlt
    simp only [go_sem,updC,entryC,h1,p_eSame]
    refine ⟨e,f,⟨rfl,rfl,hu,hv⟩,?_⟩
    try simp only [same_cmp]
    try simp only [go_sem]
    unfold eqE
    simp (disch:=first | assumption | omega | (simp;done) | (simp;omega) | (simp only [bt,and_true];first | done | omega | (simp;done))) [↓zlw,beq,ybc,ybd,ybe,endOk,wk,wk2,wk1,wkM,wkL,wkLL,ybf,hcl]
    first | done | repeat (first | exact AHeap.Le.refl _ | refine AHeap.Le.push ?_ _)
def p_EqU:List AV→AHeap→(AV→Prop)→Prop
  | [.slice _ 6 l,.slice _ 6 k,.func (.func 149) [] []],_,K=>∃ xs ys:List (Int × SEntry),(l=xs.map updAV∧k=ys.map updAV∧xs.length≤140737488355328∧ys.length≤140737488355328∧(∀ x∈xs,(fun u=>COk u.2) x)∧∀ x∈ys,(fun u=>COk u.2) x)∧K (.bool (eqL eqU xs ys))
  | _,_,_=>False
set_option maxHeartbeats 2000000 in
theorem ok_EqU:EntOk Tryz.prog 151 (Ent.pure p_EqU):=by
  refine EntOk.pure fun args H K h=>?_
  unfold p_EqU at h
  split at h
  rotate_left
  · exact h.elim
  rename_i m1 l m2 k
  obtain ⟨xs,ys,⟨rfl,rfl,hl1,hl2,ho1,ho2⟩,hK⟩:=h
  refine ⟨_,hK,?_⟩
  clear hK
  obtain ⟨R,hR⟩:∃ R,eqL eqU xs ys=R:=⟨_,rfl⟩
  rw [hR]
  by_cases hlen:xs.length=ys.length
  case neg =>
    rw [eqL_len hlen] at hR
    subst hR
    have d0:((xs.length:Int) != (ys.length:Int))=true:=by rw [bne_iff_ne];omega
    refine ACalls.of_aw (Ω:=[(149,Ent.pure p_uSame)]) (T:=assoc []) mixed (TblOk.cons ok_uSame TblOk.nil) Tryz.func151 (by kernel_rfl) (by rfl) (rs:=[.tmp 6]) (by rfl) (by kernel_rfl) (by simp only [Tryz.ntmps151,yaz,yba];decide) (Nat.le_refl _) fun hcl hlt=>?_
    change aw _ _ _ (KI Tryz.prog [(149,Ent.pure p_uSame)] (aEnd Tryz.prog [.tmp 6] H.nx _ _ (assoc [])) []) _ _
    clear hlt
    simp only [go_sem,ybb,d0]
    simp (disch:=first | assumption | omega | (simp;done) | (simp;omega) | (simp only [bt,and_true];first | done | omega | (simp;done))) [↓zlw,beq,ybc,ybd,ybe,endOk,wk,wk2,wk1,wkM,wkL,wkLL,ybf,hcl]
  have d0:((xs.length:Int) != (ys.length:Int))=false:=by rw [hlen];simp
  refine ACalls.of_aw (Ω:=[(149,Ent.pure p_uSame)]) (T:=assoc []) mixed (TblOk.cons ok_uSame TblOk.nil) Tryz.func151 (by kernel_rfl) (by rfl) (rs:=[.tmp 6]) (by rfl) (by kernel_rfl) (by simp only [Tryz.ntmps151,yaz,yba];decide) (Nat.le_refl _) fun hcl hlt=>?_
  change aw _ _ _ (KI Tryz.prog [(149,Ent.pure p_uSame)] (aEnd Tryz.prog [.tmp 6] H.nx _ _ (assoc [])) []) _ _
  have hs1:=hlt (.slice m1 6 (xs.map updAV)) (by simp)
  have hs2:=hlt (.slice m2 6 (ys.map updAV)) (by simp)
  have hf:AV.lt H.nx (.func (.func 149) [] []):=hlt _ (by simp)
  clear hlt
  simp only [go_sem,ybb,d0]
  refine loop_introW (A:=Nat) (fun k=>[(1,.slice m2 6 (ys.map updAV)),(2,.func (.func 149) [] []),(15,.slice m1 6 (xs.map updAV)),(16,.int .i64 (xs.length:Int)),(17,.int .i64 (k:Int))]) (fun _=>H) (fun k=>k≤xs.length∧eqL eqU (xs.drop k) (ys.drop k)=R) (fun k=>xs.length - k) 0 ⟨by omega,hR⟩ ?_ fun k hk=>?_
  · refine ⟨by simp only [zjy,zkd];omega,AHeap.Le.refl _,hcl,?_,?_⟩
    · simp only [ltF,zmn,and_true,true_and]
      exact ⟨hs2,hf,hs1⟩
    · simp [subW,wk2,wk1,wkM,Fr.get]
  obtain ⟨hk,hq⟩:=hk
  simp only [go_sem]
  refine cond_split (fun hc=>?_) (fun hc=>?_)
  · have hk':k<xs.length:=by simp at hc;omega
    have hk2:k<ys.length:=by omega
    obtain ⟨x,hx⟩:∃ x,x=xs[k]:=⟨_,rfl⟩
    obtain ⟨y,hy⟩:∃ y,y=ys[k]:=⟨_,rfl⟩
    have hd:xs.drop k=x::xs.drop (k+1):=by rw [hx];exact List.drop_eq_getElem_cons hk'
    have hd2:ys.drop k=y::ys.drop (k+1):=by rw [hy];exact List.drop_eq_getElem_cons hk2
    have hg:=getD_map (f:=updAV) (l:=xs) (k:=k) (x:=x) (by rw [List.getElem?_eq_getElem hk',hx])
    have hg2:=getD_map (f:=updAV) (l:=ys) (k:=k) (x:=y) (by rw [List.getElem?_eq_getElem hk2,hy])
    have e5:IntKind.i64.wrap ((k:Int)+1)=((k+1:Nat):Int):=by rw [wrap_i64]<;>omega
    have hox:=ho1 x (by rw [hx];exact List.getElem_mem hk')
    have hoy:=ho2 y (by rw [hy];exact List.getElem_mem hk2)
    rw [hd,hd2] at hq
    unfold eqL at hq
    simp only [go_sem,Int.toNat_natCast,ybb,hg,hg2,updAV,updC,entryC,p_uSame]
    (repeat with_reducible refine And.intro (by first | assumption | decide | omega) ?_)
    refine ⟨x,y,⟨rfl,rfl,hox,hoy⟩,?_⟩
    try simp only [go_sem]
    refine cond_split (fun hb=>?_) (fun hb=>?_)
    · have hb':eqU x y=false:=by simpa using hb
      rw [hb',Bool.false_and] at hq
      rw [← hq]
      try simp only [go_sem]
      simp (disch:=first | assumption | omega | (simp;done) | (simp;omega) | (simp only [bt,and_true];first | done | omega | (simp;done))) [↓zlw,beq,ybc,ybd,ybe,endOk,wk,wk2,wk1,wkM,wkL,wkLL,ybf,hcl]
      first | done | repeat (first | exact AHeap.Le.refl _ | refine AHeap.Le.push ?_ _)
    · have hb':eqU x y=true:=by simpa using hb
      rw [hb',Bool.true_and] at hq
      simp only [go_sem,e5]
      refine ⟨k+1,⟨by omega,hq⟩,by omega,by (try simp only [zkm]);omega,by repeat (first | exact AHeap.Le.refl _ | refine AHeap.Le.push ?_ _),hcl,?_,?_⟩
      · simp only [ltF,zmn,and_true,true_and]
        exact ⟨hs2,hf,hs1⟩
      · simp [subW,wk2,wk1,wkM,Fr.get]
  · have hk':k=xs.length:=by simp at hc;omega
    subst hk'
    rw [List.drop_length,hlen,List.drop_length] at hq
    rw [← hq]
    simp only [go_sem,eqL]
    simp (disch:=first | assumption | omega | (simp;done) | (simp;omega) | (simp only [bt,and_true];first | done | omega | (simp;done))) [↓zlw,beq,ybc,ybd,ybe,endOk,wk,wk2,wk1,wkM,wkL,wkLL,ybf,hcl]
def eqR (r s:SReq):Bool:=(r.kind==s.kind)&&(r.role==s.role)&&(decide (r.el=s.el))&&(eqL eqU r.ups s.ups)&&(r.table==s.table)&&(r.frm==s.frm)&&(r.count==s.count)&&(r.port==s.port)&&(r.data==s.data)
/-- a request whose parts may be compared -/
structure RC (r:SReq):Prop where
  el:r.el<2^128
  ul:r.ups.length≤140737488355328
  uo:∀ u∈r.ups,COk u.2
theorem ROk.rc {r:SReq} (h:ROk r):RC r:=⟨h.el,by have:=h.ul;omega,h.uo⟩
def p_mSameR:List AV→AHeap→(AV→Prop)→Prop
  | [.agg l,.agg k],_,K=>∃ r s:SReq,(l=reqC r∧k=reqC s∧RC r∧RC s)∧K (.bool (eqR r s))
  | _,_,_=>False
set_option maxHeartbeats 4000000 in
theorem ok_mSameR:EntOk Tryz.prog 35 (Ent.pure p_mSameR):=by
  refine EntOk.pure fun args H K h=>?_
  unfold p_mSameR at h
  split at h
  rotate_left
  · exact h.elim
  rename_i l k
  obtain ⟨r,s,⟨rfl,rfl,hr,hs⟩,hK⟩:=h
  refine ⟨_,hK,?_⟩
  clear hK
  obtain ⟨R,hR⟩:∃ R,eqR r s=R:=⟨_,rfl⟩
  rw [hR]
  unfold eqR at hR
  cases h0:(r.kind==s.kind)
  · simp only [h0,Bool.false_and,Bool.and_false,Bool.true_and] at hR
    subst hR
    refine ACalls.of_aw (Ω:=[(151,Ent.pure p_EqU),(152,Ent.pure p_bEqual)]) (T:=assoc []) mixed (TblOk.cons ok_EqU (TblOk.cons ok_bEqual TblOk.nil)) Tryz.func35 (by kernel_rfl) (by rfl) (rs:=[.tmp 4]) (by rfl) (by kernel_rfl) (by simp only [Tryz.ntmps35,yaz,yba];decide) (Nat.le_refl _) fun hcl hlt=>?_
    change aw _ _ _ (KI Tryz.prog [(151,Ent.pure p_EqU),(152,Ent.pure p_bEqual)] (aEnd Tryz.prog [.tmp 4] H.nx _ _ (assoc [])) []) _ _
    clear hlt
    simp only [go_sem,reqC,val_eq,val_eq',teq_valV,eqg_valV,Bool.bne_false,p_bEqual,p_EqU,h0]
    simp (disch:=first | assumption | omega | (simp;done) | (simp;omega) | (simp only [bt,and_true];first | done | omega | (simp;done))) [↓zlw,beq,ybc,ybd,ybe,endOk,wk,wk2,wk1,wkM,wkL,wkLL,ybf,hcl]
    first | done | repeat (first | exact AHeap.Le.refl _ | refine AHeap.Le.push ?_ _)
  cases h1:(r.role==s.role)
  · simp only [h0,h1,Bool.false_and,Bool.and_false,Bool.true_and] at hR
    subst hR
    refine ACalls.of_aw (Ω:=[(151,Ent.pure p_EqU),(152,Ent.pure p_bEqual)]) (T:=assoc []) mixed (TblOk.cons ok_EqU (TblOk.cons ok_bEqual TblOk.nil)) Tryz.func35 (by kernel_rfl) (by rfl) (rs:=[.tmp 4]) (by rfl) (by kernel_rfl) (by simp only [Tryz.ntmps35,yaz,yba];decide) (Nat.le_refl _) fun hcl hlt=>?_
    change aw _ _ _ (KI Tryz.prog [(151,Ent.pure p_EqU),(152,Ent.pure p_bEqual)] (aEnd Tryz.prog [.tmp 4] H.nx _ _ (assoc [])) []) _ _
    clear hlt
    simp only [go_sem,reqC,val_eq,val_eq',teq_valV,eqg_valV,Bool.bne_false,p_bEqual,p_EqU,h0,h1]
    simp (disch:=first | assumption | omega | (simp;done) | (simp;omega) | (simp only [bt,and_true];first | done | omega | (simp;done))) [↓zlw,beq,ybc,ybd,ybe,endOk,wk,wk2,wk1,wkM,wkL,wkLL,ybf,hcl]
    first | done | repeat (first | exact AHeap.Le.refl _ | refine AHeap.Le.push ?_ _)
  cases h2:(decide (r.el=s.el))
  · simp only [h0,h1,h2,Bool.false_and,Bool.and_false,Bool.true_and] at hR
    subst hR
    refine ACalls.of_aw (Ω:=[(151,Ent.pure p_EqU),(152,Ent.pure p_bEqual)]) (T:=assoc []) mixed (TblOk.cons ok_EqU (TblOk.cons ok_bEqual TblOk.nil)) Tryz.func35 (by kernel_rfl) (by rfl) (rs:=[.tmp 4]) (by rfl) (by kernel_rfl) (by simp only [Tryz.ntmps35,yaz,yba];decide) (Nat.le_refl _) fun hcl hlt=>?_
    change aw _ _ _ (KI Tryz.prog [(151,Ent.pure p_EqU),(152,Ent.pure p_bEqual)] (aEnd Tryz.prog [.tmp 4] H.nx _ _ (assoc [])) []) _ _
    clear hlt
    simp only [go_sem,reqC,val_eq,val_eq',teq_valV,eqg_valV,Bool.bne_false,p_bEqual,p_EqU,h0,h1,h2]
    simp (disch:=first | assumption | omega | (simp;done) | (simp;omega) | (simp only [bt,and_true];first | done | omega | (simp;done))) [↓zlw,beq,ybc,ybd,ybe,endOk,wk,wk2,wk1,wkM,wkL,wkLL,ybf,hcl]
    first | done | repeat (first | exact AHeap.Le.refl _ | refine AHeap.Le.push ?_ _)
  cases h3:(eqL eqU r.ups s.ups)
  · simp only [h0,h1,h2,h3,Bool.false_and,Bool.and_false,Bool.true_and] at hR
    subst hR
    refine ACalls.of_aw (Ω:=[(151,Ent.pure p_EqU),(152,Ent.pure p_bEqual)]) (T:=assoc []) mixed (TblOk.cons ok_EqU (TblOk.cons ok_bEqual TblOk.nil)) Tryz.func35 (by kernel_rfl) (by rfl) (rs:=[.tmp 4]) (by rfl) (by kernel_rfl) (by simp only [Tryz.ntmps35,yaz,yba];decide) (Nat.le_refl _) fun hcl hlt=>?_
    change aw _ _ _ (KI Tryz.prog [(151,Ent.pure p_EqU),(152,Ent.pure p_bEqual)] (aEnd Tryz.prog [.tmp 4] H.nx _ _ (assoc [])) []) _ _
    clear hlt
    simp only [go_sem,reqC,val_eq,val_eq',teq_valV,eqg_valV,Bool.bne_false,p_bEqual,p_EqU,h0,h1,h2,h3]
    refine ⟨r.ups,s.ups,⟨rfl,rfl,hr.ul,hs.ul,hr.uo,hs.uo⟩,?_⟩
    simp only [go_sem,reqC,val_eq,val_eq',teq_valV,eqg_valV,Bool.bne_false,p_bEqual,h0,h1,h2,h3]
    simp (disch:=first | assumption | omega | (simp;done) | (simp;omega) | (simp only [bt,and_true];first | done | omega | (simp;done))) [↓zlw,beq,ybc,ybd,ybe,endOk,wk,wk2,wk1,wkM,wkL,wkLL,ybf,hcl]
    first | done | repeat (first | exact AHeap.Le.refl _ | refine AHeap.Le.push ?_ _)
  cases h4:(r.table==s.table)
  · simp only [h0,h1,h2,h3,h4,Bool.false_and,Bool.and_false,Bool.true_and] at hR
    subst hR
    refine ACalls.of_aw (Ω:=[(151,Ent.pure p_EqU),(152,Ent.pure p_bEqual)]) (T:=assoc []) mixed (TblOk.cons ok_EqU (TblOk.cons ok_bEqual TblOk.nil)) Tryz.func35 (by kernel_rfl) (by rfl) (rs:=[.tmp 4]) (by rfl) (by kernel_rfl) (by simp only [Tryz.ntmps35,yaz,yba];decide) (Nat.le_refl _) fun hcl hlt=>?_
    change aw _ _ _ (KI Tryz.prog [(151,Ent.pure p_EqU),(152,Ent.pure p_bEqual)] (aEnd Tryz.prog [.tmp 4] H.nx _ _ (assoc [])) []) _ _
    clear hlt
    simp only [go_sem,reqC,val_eq,val_eq',teq_valV,eqg_valV,Bool.bne_false,p_bEqual,p_EqU,h0,h1,h2,h3,h4]
    refine ⟨r.ups,s.ups,⟨rfl,rfl,hr.ul,hs.ul,hr.uo,hs.uo⟩,?_⟩
    simp only [go_sem,reqC,val_eq,val_eq',teq_valV,eqg_valV,Bool.bne_false,p_bEqual,h0,h1,h2,h3,h4]
    simp (disch:=first | assumption | omega | (simp;done) | (simp;omega) | (simp only [bt,and_true];first | done | omega | (simp;done))) [↓zlw,beq,ybc,ybd,ybe,endOk,wk,wk2,wk1,wkM,wkL,wkLL,ybf,hcl]
    first | done | repeat (first | exact AHeap.Le.refl _ | refine AHeap.Le.push ?_ _)
  cases h5:(r.frm==s.frm)
  · simp only [h0,h1,h2,h3,h4,h5,Bool.false_and,Bool.and_false,Bool.true_and] at hR
    subst hR
    refine ACalls.of_aw (Ω:=[(151,Ent.pure p_EqU),(152,Ent.pure p_bEqual)]) (T:=assoc []) mixed (TblOk.cons ok_EqU (TblOk.cons ok_bEqual TblOk.nil)) Tryz.func35 (by kernel_rfl) (by rfl) (rs:=[.tmp 4]) (by rfl) (by kernel_rfl) (by simp only [Tryz.ntmps35,yaz,yba];decide) (Nat.le_refl _) fun hcl hlt=>?_
    change aw _ _ _ (KI Tryz.prog [(151,Ent.pure p_EqU),(152,Ent.pure p_bEqual)] (aEnd Tryz.prog [.tmp 4] H.nx _ _ (assoc [])) []) _ _
    clear hlt
    simp only [go_sem,reqC,val_eq,val_eq',teq_valV,eqg_valV,Bool.bne_false,p_bEqual,p_EqU,h0,h1,h2,h3,h4,h5]
    refine ⟨r.ups,s.ups,⟨rfl,rfl,hr.ul,hs.ul,hr.uo,hs.uo⟩,?_⟩
    simp only [go_sem,reqC,val_eq,val_eq',teq_valV,eqg_valV,Bool.bne_false,p_bEqual,h0,h1,h2,h3,h4,h5]
    simp (disch:=first | assumption | omega | (simp;done) | (simp;omega) | (simp only [bt,and_true];first | done | omega | (simp;done))) [↓zlw,beq,ybc,ybd,ybe,endOk,wk,wk2,wk1,wkM,wkL,wkLL,ybf,hcl]
    first | done | repeat (first | exact AHeap.Le.refl _ | refine AHeap.Le.push ?_ _)
  cases h6:(r.count==s.count)
  · simp only [h0,h1,h2,h3,h4,h5,h6,Bool.false_and,Bool.and_false,Bool.true_and] at hR
    subst hR
    refine ACalls.of_aw (Ω:=[(151,Ent.pure p_EqU),(152,Ent.pure p_bEqual)]) (T:=assoc []) mixed (TblOk.cons ok_EqU (TblOk.cons ok_bEqual TblOk.nil)) Tryz.func35 (by kernel_rfl) (by rfl) (rs:=[.tmp 4]) (by rfl) (by kernel_rfl) (by simp only [Tryz.ntmps35,yaz,yba];decide) (Nat.le_refl _) fun hcl hlt=>?_
    change aw _ _ _ (KI Tryz.prog [(151,Ent.pure p_EqU),(152,Ent.pure p_bEqual)] (aEnd Tryz.prog [.tmp 4] H.nx _ _ (assoc [])) []) _ _
    clear hlt
    simp only [go_sem,reqC,val_eq,val_eq',teq_valV,eqg_valV,Bool.bne_false,p_bEqual,p_EqU,h0,h1,h2,h3,h4,h5,h6]
    refine ⟨r.ups,s.ups,⟨rfl,rfl,hr.ul,hs.ul,hr.uo,hs.uo⟩,?_⟩
    simp only [go_sem,reqC,val_eq,val_eq',teq_valV,eqg_valV,Bool.bne_false,p_bEqual,h0,h1,h2,h3,h4,h5,h6]
    simp (disch:=first | assumption | omega | (simp;done) | (simp;omega) | (simp only [bt,and_true];first | done | omega | (simp;done))) [↓zlw,beq,ybc,ybd,ybe,endOk,wk,wk2,wk1,wkM,wkL,wkLL,ybf,hcl]
    first | done | repeat (first | exact AHeap.Le.refl _ | refine AHeap.Le.push ?_ _)
  cases h7:(r.port==s.port)
  · simp only [h0,h1,h2,h3,h4,h5,h6,h7,Bool.false_and,Bool.and_false,Bool.true_and] at hR
    subst hR
    refine ACalls.of_aw (Ω:=[(151,Ent.pure p_EqU),(152,Ent.pure p_bEqual)]) (T:=assoc []) mixed (TblOk.cons ok_EqU (TblOk.cons ok_bEqual TblOk.nil)) Tryz.func35 (by kernel_rfl) (by rfl) (rs:=[.tmp 4]) (by rfl) (by kernel_rfl) (by simp only [Tryz.ntmps35,yaz,yba];decide) (Nat.le_refl _) fun hcl hlt=>?_
    change aw _ _ _ (KI Tryz.prog [(151,Ent.pure p_EqU),(152,Ent.pure p_bEqual)] (aEnd Tryz.prog [.tmp 4] H.nx _ _ (assoc [])) []) _ _
    clear hlt
    simp only [go_sem,reqC,val_eq,val_eq',teq_valV,eqg_valV,Bool.bne_false,p_bEqual,p_EqU,h0,h1,h2,h3,h4,h5,h6,h7]
    refine ⟨r.ups,s.ups,⟨rfl,rfl,hr.ul,hs.ul,hr.uo,hs.uo⟩,?_⟩
    simp only [go_sem,reqC,val_eq,val_eq',teq_valV,eqg_valV,Bool.bne_false,p_bEqual,h0,h1,h2,h3,h4,h5,h6,h7]
    simp (disch:=first | assumption | omega | (simp;done) | (simp;omega) | (simp only [bt,and_true];first | done | omega | (simp;done))) [↓zlw,beq,ybc,ybd,ybe,endOk,wk,wk2,wk1,wkM,wkL,wkLL,ybf,hcl]
    first | done | repeat (first | exact AHeap.Le.refl _ | refine AHeap.Le.push ?_ _)
  cases h8:(r.data==s.data)
  · simp only [h0,h1,h2,h3,h4,h5,h6,h7,h8,Bool.false_and,Bool.and_false,Bool.true_and] at hR
    subst hR
    refine ACalls.of_aw (Ω:=[(151,Ent.pure p_EqU),(152,Ent.pure p_bEqual)]) (T:=assoc []) mixed (TblOk.cons ok_EqU (TblOk.cons ok_bEqual TblOk.nil)) Tryz.func35 (by kernel_rfl) (by rfl) (rs:=[.tmp 4]) (by rfl) (by kernel_rfl) (by simp only [Tryz.ntmps35,yaz,yba];decide) (Nat.le_refl _) fun hcl hlt=>?_
    change aw _ _ _ (KI Tryz.prog [(151,Ent.pure p_EqU),(152,Ent.pure p_bEqual)] (aEnd Tryz.prog [.tmp 4] H.nx _ _ (assoc [])) []) _ _
    clear hlt
    simp only [go_sem,reqC,val_eq,val_eq',teq_valV,eqg_valV,Bool.bne_false,p_bEqual,p_EqU,h0,h1,h2,h3,h4,h5,h6,h7,h8]
    refine ⟨r.ups,s.ups,⟨rfl,rfl,hr.ul,hs.ul,hr.uo,hs.uo⟩,?_⟩
    simp only [go_sem,reqC,val_eq,val_eq',teq_valV,eqg_valV,Bool.bne_false,p_bEqual,h0,h1,h2,h3,h4,h5,h6,h7,h8]
    refine ⟨r.data,s.data,⟨rfl,rfl⟩,?_⟩
    try simp only [go_sem,reqC,h0,h1,h2,h3,h4,h5,h6,h7,h8]
    simp (disch:=first | assumption | omega | (simp;done) | (simp;omega) | (simp only [bt,and_true];first | done | omega | (simp;done))) [↓zlw,beq,ybc,ybd,ybe,endOk,wk,wk2,wk1,wkM,wkL,wkLL,ybf,hcl]
    first | done | repeat (first | exact AHeap.Le.refl _ | refine AHeap.Le.push ?_ _)
  simp only [h0,h1,h2,h3,h4,h5,h6,h7,h8,Bool.true_and] at hR
  subst hR
  refine ACalls.of_aw (Ω:=[(151,Ent.pure p_EqU),(152,Ent.pure p_bEqual)]) (T:=assoc []) mixed (TblOk.cons ok_EqU (TblOk.cons ok_bEqual TblOk.nil)) Tryz.func35 (by kernel_rfl) (by rfl) (rs:=[.tmp 4]) (by rfl) (by kernel_rfl) (by simp only [Tryz.ntmps35,yaz,yba];decide) (Nat.le_refl _) fun hcl hlt=>?_
  change aw _ _ _ (KI Tryz.prog [(151,Ent.pure p_EqU),(152,Ent.pure p_bEqual)] (aEnd Tryz.prog [.tmp 4] H.nx _ _ (assoc [])) []) _ _
  clear hlt
  simp only [go_sem,reqC,val_eq,val_eq',teq_valV,eqg_valV,Bool.bne_false,p_bEqual,p_EqU,h0,h1,h2,h3,h4,h5,h6,h7,h8]
  refine ⟨r.ups,s.ups,⟨rfl,rfl,hr.ul,hs.ul,hr.uo,hs.uo⟩,?_⟩
  simp only [go_sem,reqC,val_eq,val_eq',teq_valV,eqg_valV,Bool.bne_false,p_bEqual,h0,h1,h2,h3,h4,h5,h6,h7,h8]
  refine ⟨r.data,s.data,⟨rfl,rfl⟩,?_⟩
  try simp only [go_sem,reqC,h0,h1,h2,h3,h4,h5,h6,h7,h8]
  simp (disch:=first | assumption | omega | (simp;done) | (simp;omega) | (simp only [bt,and_true];first | done | omega | (simp;done))) [↓zlw,beq,ybc,ybd,ybe,endOk,wk,wk2,wk1,wkM,wkL,wkLL,ybf,hcl]
  first | done | repeat (first | exact AHeap.Le.refl _ | refine AHeap.Le.push ?_ _)
end Go.AL


open Go Go.AL Go.Proofs
namespace Go.AL
set_option linter.all false
set_option maxRecDepth 10000
theorem ti_codec:ti Tryz.prog 263=some ⟨.struct [(0,259,false),(1,260,false),(2,261,false)],3,24,.agg [.nilf,.nilf,.nilf]⟩:=by kernel_rfl
theorem ti_scodec:ti Tryz.prog 264=some ⟨.slice 263,1,24,.slice .nil 1 []⟩:=by kernel_rfl
theorem ti_fOnly:ti Tryz.prog 259=some ⟨.func,1,8,.nilf⟩:=by kernel_rfl
theorem ti_fWrite:ti Tryz.prog 260=some ⟨.func,1,8,.nilf⟩:=by kernel_rfl
theorem ti_fRead:ti Tryz.prog 261=some ⟨.func,1,8,.nilf⟩:=by kernel_rfl
attribute [go_sem] ti_codec ti_scodec ti_fOnly ti_fWrite ti_fRead
def codL:List AV:=[.agg [.func (.func 257) [] [],.func (.func 258) [] [],.func (.func 260) [] []],.agg [.func (.func 261) [] [],.func (.func 262) [] [],.func (.func 263) [] []],.agg [.func (.func 264) [] [],.func (.func 265) [] [],.func (.func 266) [] []],
  .agg [.func (.func 268) [] [],.func (.func 269) [] [],.func (.func 270) [] []],.agg [.func (.func 271) [] [],.func (.func 272) [] [],.func (.func 273) [] []],.agg [.func (.func 274) [] [],.func (.func 275) [] [],.func (.func 276) [] []]]
theorem lt_codL {n:Nat} {m:Mark} (h:∀ id,m=.own id→id<n):AV.lt n (.slice m 3 codL):=by
  rw [lt_sliceL]
  refine ⟨h,?_⟩
  have hf:∀ f,AV.lt n (.func (.func f) [] []):=fun f=>by rw [AV.lt];exact ⟨fun j hj=>absurd hj (by simp),fun j hj=>absurd hj (by simp)⟩
  simp only [codL,znc,znd,zmz,hf,and_true]
def p_codecs:List AV→AHeap→(AV→Prop)→Prop
  | [],_,K=>K (.slice .any 3 codL)
  | _,_,_=>False
theorem ok_codecs:EntOk Tryz.prog 146 (Ent.pure p_codecs):=by
  refine EntOk.pure fun args H K h=>?_
  unfold p_codecs at h
  split at h
  rotate_left
  · exact h.elim
  refine ⟨_,h,?_⟩
  refine ACalls.of_aw (Ω:=[]) (T:=assoc []) mixed TblOk.nil Tryz.func146 (by kernel_rfl) (by rfl) (rs:=[.tmp 0]) (by rfl) (by kernel_rfl) (by simp only [Tryz.ntmps146,yaz,yba];decide) (Nat.le_refl _) fun hcl hlt=>?_
  change aw _ _ _ (KI Tryz.prog [] (aEnd Tryz.prog [.tmp 0] H.nx _ _ (assoc [])) []) _ _
  clear hlt
  simp only [go_sem]
  refine ⟨.inl ⟨.inl rfl,rfl,rfl⟩,by repeat (first | exact AHeap.Le.refl _ | refine AHeap.Le.push ?_ _),hcl,lt_codL fun id h=>by cases h⟩
def badK (u:Int × SEntry):Bool:=decide (u.1<1)||decide (3<u.1)
def usedR (r:SReq):SReq:={ useR r.kind r with kind:=r.kind }
def permR (r:SReq):Bool:=decide (1≤r.kind∧r.kind≤6)&&(!r.ups.any badK&&eqR r (usedR r))
theorem useR_rc {r:SReq} (k:Int) (h:RC r):RC (useR k r):=by
  unfold useR
  repeat' split
  all_goals exact ⟨by first | exact h.el | exact Nat.two_pow_pos 128,by first | exact h.ul | exact Nat.zero_le _,by first | exact h.uo | (intro u hu;cases hu)⟩
theorem kind_cases {k:Int} (h1:1≤k) (h2:k≤6):k=1∨k=2∨k=3∨k=4∨k=5∨k=6:=by omega
def p_permit:List AV→AHeap→(AV→Prop)→Prop
  | [.agg l],_,K=>∃ r:SReq,(l=reqC r∧RC r)∧K (.bool (permR r))
  | _,_,_=>False
set_option maxHeartbeats 4000000 in
theorem ok_permit:EntOk Tryz.prog 145 (Ent.pure p_permit):=by
  refine EntOk.pure fun args H K h=>?_
  unfold p_permit at h
  split at h
  rotate_left
  · exact h.elim
  rename_i l
  obtain ⟨r,⟨rfl,hr⟩,hK⟩:=h
  refine ⟨_,hK,?_⟩
  clear hK
  by_cases h1:r.kind<1
  · have d1:decide (r.kind<1)=true:=decide_eq_true h1
    rw [show permR r=false by unfold permR;rw [decide_eq_false (by omega),Bool.false_and]]
    refine ACalls.of_aw (Ω:=[(255,Ent.pure p_ConU),(146,Ent.pure p_codecs),(257,Ent.pure p_only1),(261,Ent.pure p_only2),(264,Ent.pure p_only3),(268,Ent.pure p_only4),(271,Ent.pure p_only5),(274,Ent.pure p_only6),(35,Ent.pure p_mSameR)]) (T:=assoc [(3,[[],[],[],[],[],[],[0],[],[0,2,6,7],[],[0,2,6,7,8,9]]),(803,[[9,86]])]) mixed (TblOk.cons ok_ConU (TblOk.cons ok_codecs (TblOk.cons ok_only1 (TblOk.cons ok_only2 (TblOk.cons ok_only3 (TblOk.cons ok_only4 (TblOk.cons ok_only5 (TblOk.cons ok_only6 (TblOk.cons ok_mSameR TblOk.nil))))))))) Tryz.func145 (by kernel_rfl) (by rfl) (rs:=[.tmp 2]) (by rfl) (by kernel_rfl) (by simp only [Tryz.ntmps145,yaz,yba];decide) (Nat.le_refl _) fun hcl hlt=>?_
    change aw _ _ _ (KI Tryz.prog [(255,Ent.pure p_ConU),(146,Ent.pure p_codecs),(257,Ent.pure p_only1),(261,Ent.pure p_only2),(264,Ent.pure p_only3),(268,Ent.pure p_only4),(271,Ent.pure p_only5),(274,Ent.pure p_only6),(35,Ent.pure p_mSameR)] (aEnd Tryz.prog [.tmp 2] H.nx _ _ (assoc [(3,[[],[],[],[],[],[],[0],[],[0,2,6,7],[],[0,2,6,7,8,9]]),(803,[[9,86]])])) []) _ _
    clear hlt
    simp only [go_sem,reqC,d1]
    simp (disch:=first | assumption | omega | (simp;done) | (simp;omega) | (simp only [bt,and_true];first | done | omega | (simp;done))) [↓zlw,beq,ybc,ybd,ybe,endOk,wk,wk2,wk1,wkM,wkL,wkLL,ybf,hcl]
    first | done | repeat (first | exact AHeap.Le.refl _ | refine AHeap.Le.push ?_ _)
  have d1:decide (r.kind<1)=false:=decide_eq_false h1
  by_cases h2:r.kind > 6
  · have d2:decide (r.kind > 6)=true:=decide_eq_true h2
    rw [show permR r=false by unfold permR;rw [decide_eq_false (by omega),Bool.false_and]]
    refine ACalls.of_aw (Ω:=[(255,Ent.pure p_ConU),(146,Ent.pure p_codecs),(257,Ent.pure p_only1),(261,Ent.pure p_only2),(264,Ent.pure p_only3),(268,Ent.pure p_only4),(271,Ent.pure p_only5),(274,Ent.pure p_only6),(35,Ent.pure p_mSameR)]) (T:=assoc [(3,[[],[],[],[],[],[],[0],[],[0,2,6,7],[],[0,2,6,7,8,9]]),(803,[[9,86]])]) mixed (TblOk.cons ok_ConU (TblOk.cons ok_codecs (TblOk.cons ok_only1 (TblOk.cons ok_only2 (TblOk.cons ok_only3 (TblOk.cons ok_only4 (TblOk.cons ok_only5 (TblOk.cons ok_only6 (TblOk.cons ok_mSameR TblOk.nil))))))))) Tryz.func145 (by kernel_rfl) (by rfl) (rs:=[.tmp 2]) (by rfl) (by kernel_rfl) (by simp only [Tryz.ntmps145,yaz,yba];decide) (Nat.le_refl _) fun hcl hlt=>?_
    change aw _ _ _ (KI Tryz.prog [(255,Ent.pure p_ConU),(146,Ent.pure p_codecs),(257,Ent.pure p_only1),(261,Ent.pure p_only2),(264,Ent.pure p_only3),(268,Ent.pure p_only4),(271,Ent.pure p_only5),(274,Ent.pure p_only6),(35,Ent.pure p_mSameR)] (aEnd Tryz.prog [.tmp 2] H.nx _ _ (assoc [(3,[[],[],[],[],[],[],[0],[],[0,2,6,7],[],[0,2,6,7,8,9]]),(803,[[9,86]])])) []) _ _
    clear hlt
    simp only [go_sem,reqC,d1,d2]
    simp (disch:=first | assumption | omega | (simp;done) | (simp;omega) | (simp only [bt,and_true];first | done | omega | (simp;done))) [↓zlw,beq,ybc,ybd,ybe,endOk,wk,wk2,wk1,wkM,wkL,wkLL,ybf,hcl]
    first | done | repeat (first | exact AHeap.Le.refl _ | refine AHeap.Le.push ?_ _)
  have d2:decide (r.kind > 6)=false:=decide_eq_false h2
  have d12:decide (1≤r.kind∧r.kind≤6)=true:=decide_eq_true (by omega)
  cases h3:r.ups.any badK
  case true =>
    rw [show permR r=false by unfold permR;rw [h3,Bool.not_true,Bool.false_and,Bool.and_false]]
    refine ACalls.of_aw (Ω:=[(255,Ent.pure p_ConU),(146,Ent.pure p_codecs),(257,Ent.pure p_only1),(261,Ent.pure p_only2),(264,Ent.pure p_only3),(268,Ent.pure p_only4),(271,Ent.pure p_only5),(274,Ent.pure p_only6),(35,Ent.pure p_mSameR)]) (T:=assoc [(3,[[],[],[],[],[],[],[0],[],[0,2,6,7],[],[0,2,6,7,8,9]]),(803,[[9,86]])]) mixed (TblOk.cons ok_ConU (TblOk.cons ok_codecs (TblOk.cons ok_only1 (TblOk.cons ok_only2 (TblOk.cons ok_only3 (TblOk.cons ok_only4 (TblOk.cons ok_only5 (TblOk.cons ok_only6 (TblOk.cons ok_mSameR TblOk.nil))))))))) Tryz.func145 (by kernel_rfl) (by rfl) (rs:=[.tmp 2]) (by rfl) (by kernel_rfl) (by simp only [Tryz.ntmps145,yaz,yba];decide) (Nat.le_refl _) fun hcl hlt=>?_
    change aw _ _ _ (KI Tryz.prog [(255,Ent.pure p_ConU),(146,Ent.pure p_codecs),(257,Ent.pure p_only1),(261,Ent.pure p_only2),(264,Ent.pure p_only3),(268,Ent.pure p_only4),(271,Ent.pure p_only5),(274,Ent.pure p_only6),(35,Ent.pure p_mSameR)] (aEnd Tryz.prog [.tmp 2] H.nx _ _ (assoc [(3,[[],[],[],[],[],[],[0],[],[0,2,6,7],[],[0,2,6,7,8,9]]),(803,[[9,86]])])) []) _ _
    clear hlt
    simp only [go_sem,reqC,d1,d2,p_ConU]
    refine ⟨r.ups,⟨rfl,hr.ul⟩,?_⟩
    rw [show (r.ups.any fun u=>decide (u.1<1)||decide (3<u.1))=true from h3]
    simp only [go_sem,reqC,d1,d2]
    simp (disch:=first | assumption | omega | (simp;done) | (simp;omega) | (simp only [bt,and_true];first | done | omega | (simp;done))) [↓zlw,beq,ybc,ybd,ybe,endOk,wk,wk2,wk1,wkM,wkL,wkLL,ybf,hcl]
    first | done | repeat (first | exact AHeap.Le.refl _ | refine AHeap.Le.push ?_ _)
  rw [show permR r=eqR r (usedR r) by unfold permR;rw [d12,h3];rfl]
  have hk:=kind_cases (show 1≤r.kind by omega) (show r.kind≤6 by omega)
  have hru:=useR_rc r.kind hr
  obtain ⟨R,hR⟩:∃ R,eqR r (usedR r)=R:=⟨_,rfl⟩
  rw [hR]
  refine ACalls.of_aw (Ω:=[(255,Ent.pure p_ConU),(146,Ent.pure p_codecs),(257,Ent.pure p_only1),(261,Ent.pure p_only2),(264,Ent.pure p_only3),(268,Ent.pure p_only4),(271,Ent.pure p_only5),(274,Ent.pure p_only6),(35,Ent.pure p_mSameR)]) (T:=assoc [(3,[[],[],[],[],[],[],[0],[],[0,2,6,7],[],[0,2,6,7,8,9]]),(803,[[9,86]])]) mixed (TblOk.cons ok_ConU (TblOk.cons ok_codecs (TblOk.cons ok_only1 (TblOk.cons ok_only2 (TblOk.cons ok_only3 (TblOk.cons ok_only4 (TblOk.cons ok_only5 (TblOk.cons ok_only6 (TblOk.cons ok_mSameR TblOk.nil))))))))) Tryz.func145 (by kernel_rfl) (by rfl) (rs:=[.tmp 2]) (by rfl) (by kernel_rfl) (by simp only [Tryz.ntmps145,yaz,yba];decide) (Nat.le_refl _) fun hcl hlt=>?_
  change aw _ _ _ (KI Tryz.prog [(255,Ent.pure p_ConU),(146,Ent.pure p_codecs),(257,Ent.pure p_only1),(261,Ent.pure p_only2),(264,Ent.pure p_only3),(268,Ent.pure p_only4),(271,Ent.pure p_only5),(274,Ent.pure p_only6),(35,Ent.pure p_mSameR)] (aEnd Tryz.prog [.tmp 2] H.nx _ _ (assoc [(3,[[],[],[],[],[],[],[0],[],[0,2,6,7],[],[0,2,6,7,8,9]]),(803,[[9,86]])])) []) _ _
  clear hlt
  simp only [go_sem,reqC,d1,d2,p_ConU]
  refine ⟨r.ups,⟨rfl,hr.ul⟩,?_⟩
  rw [show (r.ups.any fun u=>decide (u.1<1)||decide (3<u.1))=false from h3]
  have hcd:codL.length=6:=rfl
  rcases hk with hk | hk | hk | hk | hk | hk
  · have hw:IntKind.i64.wrap (r.kind - 1)=0:=by rw [hk];decide
    have hg:codL.getD 0 .junk=.agg [.func (.func 257) [] [],.func (.func 258) [] [],.func (.func 260) [] []]:=rfl
    have et:((0:Int)).toNat=0:=rfl
    have hu:usedR r={ useR 1 r with kind:=r.kind }:=by unfold usedR;rw [hk]
    rw [hk] at hru
    simp only [go_sem,reqC,p_codecs,hw,hcd,et,hg,p_only1]
    refine ⟨by omega,r,rfl,?_⟩
    have hx:∀ m:Int,reqC { useR 1 r with kind:=m }=[.int .i64 m,.int .i64 r.role,.int .u64 ((r.el/2^64:Nat):Int),.int .u64 ((r.el % 2^64:Nat):Int),.slice .any 6 [],.int .i64 0,.int .i64 0,.int .i64 0,.int .i64 0,.slice .any 1 []]:=fun m=>by simp only [reqC,useR,zReq,Int.reduceEq,if_true,if_false,yaf,zkt,Nat.zero_div,Nat.zero_mod,Int.natCast_zero]
    have h0:(useR 1 r).kind=0:=rfl
    have hx0:reqAV (useR 1 r)=.agg ([.int .i64 0,.int .i64 r.role,.int .u64 ((r.el/2^64:Nat):Int),.int .u64 ((r.el % 2^64:Nat):Int),.slice .any 6 [],.int .i64 0,.int .i64 0,.int .i64 0,.int .i64 0,.slice .any 1 []]):=by
      have:=hx 0
      rw [show { useR 1 r with kind:=0 }=useR 1 r from rfl] at this
      unfold reqAV;rw [this]
    simp only [go_sem,hx0]
    simp only [go_sem,p_mSameR]
    refine ⟨r,{ useR 1 r with kind:=r.kind },⟨rfl,(hx r.kind).symm,hr,⟨hru.el,hru.ul,hru.uo⟩⟩,?_⟩
    rw [← hu,hR]
    try simp only [go_sem]
    simp (disch:=first | assumption | omega | (simp;done) | (simp;omega) | (simp only [bt,and_true];first | done | omega | (simp;done))) [↓zlw,beq,ybc,ybd,ybe,endOk,wk,wk2,wk1,wkM,wkL,wkLL,ybf,hcl]
    first | done | repeat (first | exact AHeap.Le.refl _ | refine AHeap.Le.push ?_ _)
  skip
  · have hw:IntKind.i64.wrap (r.kind - 1)=1:=by rw [hk];decide
    have hg:codL.getD 1 .junk=.agg [.func (.func 261) [] [],.func (.func 262) [] [],.func (.func 263) [] []]:=rfl
    have et:((1:Int)).toNat=1:=rfl
    have hu:usedR r={ useR 2 r with kind:=r.kind }:=by unfold usedR;rw [hk]
    rw [hk] at hru
    simp only [go_sem,reqC,p_codecs,hw,hcd,et,hg,p_only2]
    refine ⟨by omega,r,rfl,?_⟩
    have hx:∀ m:Int,reqC { useR 2 r with kind:=m }=[.int .i64 m,.int .i64 0,.int .u64 0,.int .u64 0,.slice .any 6 [],.int .i64 0,.int .i64 0,.int .i64 0,.int .i64 0,.slice .any 1 []]:=fun m=>by simp only [reqC,useR,zReq,Int.reduceEq,if_true,if_false,yaf,zkt,Nat.zero_div,Nat.zero_mod,Int.natCast_zero]
    have h0:(useR 2 r).kind=0:=rfl
    have hx0:reqAV (useR 2 r)=.agg ([.int .i64 0,.int .i64 0,.int .u64 0,.int .u64 0,.slice .any 6 [],.int .i64 0,.int .i64 0,.int .i64 0,.int .i64 0,.slice .any 1 []]):=by
      have:=hx 0
      rw [show { useR 2 r with kind:=0 }=useR 2 r from rfl] at this
      unfold reqAV;rw [this]
    simp only [go_sem,hx0]
    simp only [go_sem,p_mSameR]
    refine ⟨r,{ useR 2 r with kind:=r.kind },⟨rfl,(hx r.kind).symm,hr,⟨hru.el,hru.ul,hru.uo⟩⟩,?_⟩
    rw [← hu,hR]
    try simp only [go_sem]
    simp (disch:=first | assumption | omega | (simp;done) | (simp;omega) | (simp only [bt,and_true];first | done | omega | (simp;done))) [↓zlw,beq,ybc,ybd,ybe,endOk,wk,wk2,wk1,wkM,wkL,wkLL,ybf,hcl]
    first | done | repeat (first | exact AHeap.Le.refl _ | refine AHeap.Le.push ?_ _)
  skip
  · have hw:IntKind.i64.wrap (r.kind - 1)=2:=by rw [hk];decide
    have hg:codL.getD 2 .junk=.agg [.func (.func 264) [] [],.func (.func 265) [] [],.func (.func 266) [] []]:=rfl
    have et:((2:Int)).toNat=2:=rfl
    have hu:usedR r={ useR 3 r with kind:=r.kind }:=by unfold usedR;rw [hk]
    rw [hk] at hru
    simp only [go_sem,reqC,p_codecs,hw,hcd,et,hg,p_only3]
    refine ⟨by omega,r,rfl,?_⟩
    have hx:∀ m:Int,reqC { useR 3 r with kind:=m }=[.int .i64 m,.int .i64 r.role,.int .u64 ((r.el/2^64:Nat):Int),.int .u64 ((r.el % 2^64:Nat):Int),.slice .any 6 (r.ups.map updAV),.int .i64 0,.int .i64 0,.int .i64 0,.int .i64 0,.slice .any 1 []]:=fun m=>by simp only [reqC,useR,zReq,Int.reduceEq,if_true,if_false,yaf,zkt,Nat.zero_div,Nat.zero_mod,Int.natCast_zero]
    have h0:(useR 3 r).kind=0:=rfl
    have hx0:reqAV (useR 3 r)=.agg ([.int .i64 0,.int .i64 r.role,.int .u64 ((r.el/2^64:Nat):Int),.int .u64 ((r.el % 2^64:Nat):Int),.slice .any 6 (r.ups.map updAV),.int .i64 0,.int .i64 0,.int .i64 0,.int .i64 0,.slice .any 1 []]):=by
      have:=hx 0
      rw [show { useR 3 r with kind:=0 }=useR 3 r from rfl] at this
      unfold reqAV;rw [this]
    simp only [go_sem,hx0]
    simp only [go_sem,p_mSameR]
    refine ⟨r,{ useR 3 r with kind:=r.kind },⟨rfl,(hx r.kind).symm,hr,⟨hru.el,hru.ul,hru.uo⟩⟩,?_⟩
    rw [← hu,hR]
    try simp only [go_sem]
    simp (disch:=first | assumption | omega | (simp;done) | (simp;omega) | (simp only [bt,and_true];first | done | omega | (simp;done))) [↓zlw,beq,ybc,ybd,ybe,endOk,wk,wk2,wk1,wkM,wkL,wkLL,ybf,hcl]
    first | done | repeat (first | exact AHeap.Le.refl _ | refine AHeap.Le.push ?_ _)
  skip
  · have hw:IntKind.i64.wrap (r.kind - 1)=3:=by rw [hk];decide
    have hg:codL.getD 3 .junk=.agg [.func (.func 268) [] [],.func (.func 269) [] [],.func (.func 270) [] []]:=rfl
    have et:((3:Int)).toNat=3:=rfl
    have hu:usedR r={ useR 4 r with kind:=r.kind }:=by unfold usedR;rw [hk]
    rw [hk] at hru
    simp only [go_sem,reqC,p_codecs,hw,hcd,et,hg,p_only4]
    refine ⟨by omega,r,rfl,?_⟩
    have hx:∀ m:Int,reqC { useR 4 r with kind:=m }=[.int .i64 m,.int .i64 r.role,.int .u64 0,.int .u64 0,.slice .any 6 [],.int .i64 r.table,.int .i64 0,.int .i64 0,.int .i64 0,.slice .any 1 []]:=fun m=>by simp only [reqC,useR,zReq,Int.reduceEq,if_true,if_false,yaf,zkt,Nat.zero_div,Nat.zero_mod,Int.natCast_zero]
    have h0:(useR 4 r).kind=0:=rfl
    have hx0:reqAV (useR 4 r)=.agg ([.int .i64 0,.int .i64 r.role,.int .u64 0,.int .u64 0,.slice .any 6 [],.int .i64 r.table,.int .i64 0,.int .i64 0,.int .i64 0,.slice .any 1 []]):=by
      have:=hx 0
      rw [show { useR 4 r with kind:=0 }=useR 4 r from rfl] at this
      unfold reqAV;rw [this]
    simp only [go_sem,hx0]
    simp only [go_sem,p_mSameR]
    refine ⟨r,{ useR 4 r with kind:=r.kind },⟨rfl,(hx r.kind).symm,hr,⟨hru.el,hru.ul,hru.uo⟩⟩,?_⟩
    rw [← hu,hR]
    try simp only [go_sem]
    simp (disch:=first | assumption | omega | (simp;done) | (simp;omega) | (simp only [bt,and_true];first | done | omega | (simp;done))) [↓zlw,beq,ybc,ybd,ybe,endOk,wk,wk2,wk1,wkM,wkL,wkLL,ybf,hcl]
    first | done | repeat (first | exact AHeap.Le.refl _ | refine AHeap.Le.push ?_ _)
  skip
  · have hw:IntKind.i64.wrap (r.kind - 1)=4:=by rw [hk];decide
    have hg:codL.getD 4 .junk=.agg [.func (.func 271) [] [],.func (.func 272) [] [],.func (.func 273) [] []]:=rfl
    have et:((4:Int)).toNat=4:=rfl
    have hu:usedR r={ useR 5 r with kind:=r.kind }:=by unfold usedR;rw [hk]
    rw [hk] at hru
    simp only [go_sem,reqC,p_codecs,hw,hcd,et,hg,p_only5]
    refine ⟨by omega,r,rfl,?_⟩
    have hx:∀ m:Int,reqC { useR 5 r with kind:=m }=[.int .i64 m,.int .i64 r.role,.int .u64 0,.int .u64 0,.slice .any 6 [],.int .i64 0,.int .i64 r.frm,.int .i64 r.count,.int .i64 0,.slice .any 1 []]:=fun m=>by simp only [reqC,useR,zReq,Int.reduceEq,if_true,if_false,yaf,zkt,Nat.zero_div,Nat.zero_mod,Int.natCast_zero]
    have h0:(useR 5 r).kind=0:=rfl
    have hx0:reqAV (useR 5 r)=.agg ([.int .i64 0,.int .i64 r.role,.int .u64 0,.int .u64 0,.slice .any 6 [],.int .i64 0,.int .i64 r.frm,.int .i64 r.count,.int .i64 0,.slice .any 1 []]):=by
      have:=hx 0
      rw [show { useR 5 r with kind:=0 }=useR 5 r from rfl] at this
      unfold reqAV;rw [this]
    simp only [go_sem,hx0]
    simp only [go_sem,p_mSameR]
    refine ⟨r,{ useR 5 r with kind:=r.kind },⟨rfl,(hx r.kind).symm,hr,⟨hru.el,hru.ul,hru.uo⟩⟩,?_⟩
    rw [← hu,hR]
    try simp only [go_sem]
    simp (disch:=first | assumption | omega | (simp;done) | (simp;omega) | (simp only [bt,and_true];first | done | omega | (simp;done))) [↓zlw,beq,ybc,ybd,ybe,endOk,wk,wk2,wk1,wkM,wkL,wkLL,ybf,hcl]
    first | done | repeat (first | exact AHeap.Le.refl _ | refine AHeap.Le.push ?_ _)
  skip
  · have hw:IntKind.i64.wrap (r.kind - 1)=5:=by rw [hk];decide
    have hg:codL.getD 5 .junk=.agg [.func (.func 274) [] [],.func (.func 275) [] [],.func (.func 276) [] []]:=rfl
    have et:((5:Int)).toNat=5:=rfl
    have hu:usedR r={ useR 6 r with kind:=r.kind }:=by unfold usedR;rw [hk]
    rw [hk] at hru
    simp only [go_sem,reqC,p_codecs,hw,hcd,et,hg,p_only6]
    refine ⟨by omega,r,rfl,?_⟩
    have hx:∀ m:Int,reqC { useR 6 r with kind:=m }=[.int .i64 m,.int .i64 0,.int .u64 0,.int .u64 0,.slice .any 6 [],.int .i64 0,.int .i64 0,.int .i64 0,.int .i64 r.port,.slice .any 1 (bys r.data)]:=fun m=>by simp only [reqC,useR,zReq,Int.reduceEq,if_true,if_false,yaf,zkt,Nat.zero_div,Nat.zero_mod,Int.natCast_zero]
    have h0:(useR 6 r).kind=0:=rfl
    have hx0:reqAV (useR 6 r)=.agg ([.int .i64 0,.int .i64 0,.int .u64 0,.int .u64 0,.slice .any 6 [],.int .i64 0,.int .i64 0,.int .i64 0,.int .i64 r.port,.slice .any 1 (bys r.data)]):=by
      have:=hx 0
      rw [show { useR 6 r with kind:=0 }=useR 6 r from rfl] at this
      unfold reqAV;rw [this]
    simp only [go_sem,hx0]
    simp only [go_sem,p_mSameR]
    refine ⟨r,{ useR 6 r with kind:=r.kind },⟨rfl,(hx r.kind).symm,hr,⟨hru.el,hru.ul,hru.uo⟩⟩,?_⟩
    rw [← hu,hR]
    try simp only [go_sem]
    simp (disch:=first | assumption | omega | (simp;done) | (simp;omega) | (simp only [bt,and_true];first | done | omega | (simp;done))) [↓zlw,beq,ybc,ybd,ybe,endOk,wk,wk2,wk1,wkM,wkL,wkLL,ybf,hcl]
    first | done | repeat (first | exact AHeap.Le.refl _ | refine AHeap.Le.push ?_ _)
end Go.AL

