/- Contracts and plain laws, a part of the proof; no condition of its own. -/
import Derived.Test.YthpglnacipgolaaGreatS11e
open Go Go.AL Go.Proofs
namespace Go.AL
set_option linter.all false
set_option maxRecDepth 10000
theorem ti_fentries:ti Tryz.prog 55=some ⟨.slice 199,1,24,.slice .nil 1 []⟩:=by kernel_rfl
theorem ti_fentry:ti Tryz.prog 199=some ⟨.struct [(0,3,false),(1,197,false),(2,3,false),(3,3,false),(4,47,false)],5,72,.agg [.int .i64 0,.slice .nil 1 [],.int .i64 0,.int .i64 0,.slice .nil 1 []]⟩:=by kernel_rfl
attribute [go_sem] ti_fentries ti_fentry
def gEntries (S:Sch) (b:List UInt8):Nat→Nat→List SEntry × Nat
  | 0,v=>([],v)
  | k+1,v=>if v<b.length then ((gEntry S b (v+1) ((cv b v 4:Nat):Int)).1::(gEntries S b k (gEntry S b (v+1) ((cv b v 4:Nat):Int)).2).1,(gEntries S b k (gEntry S b (v+1) ((cv b v 4:Nat):Int)).2).2) else ([],v)
theorem gEntries_ok {S:Sch} (hG:GenS S) {b:List UInt8}:∀ (k v:Nat),(gEntries S b k v).1.length≤k∧∀ e∈(gEntries S b k v).1,∃ m,GE S (tableAt S m) e
  | 0,v=>⟨Nat.le_refl _,by simp [gEntries]⟩
  | k+1,v=>by
    obtain ⟨i1,i2⟩:=gEntries_ok hG (b:=b) k (gEntry S b (v+1) ((cv b v 4:Nat):Int)).2
    unfold gEntries
    split
    · refine ⟨by simp only [List.length_cons];omega,fun e he=>?_⟩
      rcases List.mem_cons.1 he with rfl | he
      · exact ⟨_,gEntry_ok hG⟩
      · exact i2 e he
    · exact ⟨by simp,by simp⟩
theorem lt_ownE {i j:Nat} {es:List SEntry} (h:i<j:=by omega):AV.lt j (.slice (.own i) 5 (es.map entryAV)):=by
  rw [lt_sliceL]
  refine ⟨fun k e=>(by cases e;exact h),ltL_iff.2 fun k hk=>?_⟩
  obtain ⟨x,_,e⟩:=List.mem_map.1 (List.getElem_mem hk)
  rw [← e];exact lt_entry x
end Go.AL


open Go Go.AL Go.Proofs
namespace Go.AL
set_option linter.all false
set_option maxRecDepth 10000

theorem iand3 (a:Int):0≤iand .i64 a 3∧iand .i64 a 3≤3:=by
  have h:(BitVec.ofInt 64 a &&& BitVec.ofInt 64 3).toNat≤3:=by
    rw [BitVec.toNat_and]
    exact Nat.and_le_right
  change 0≤IntKind.i64.wrap ((BitVec.ofInt 64 a &&& BitVec.ofInt 64 3).toNat:Int)∧IntKind.i64.wrap ((BitVec.ofInt 64 a &&& BitVec.ofInt 64 3).toNat:Int)≤3
  generalize (BitVec.ofInt 64 a &&& BitVec.ofInt 64 3).toNat=z at *
  rw [wrap_i64]<;>omega
end Go.AL


open Go Go.AL Go.Proofs
namespace Go.AL
set_option linter.all false
set_option maxRecDepth 10000

def wMatch (m:SMatch):List UInt8:=(if m.present then 1 else 0)::if m.present then wValue m.value++wValue m.mask++wUint m.pfx 1++wValue m.high else []
theorem wValue_len {v:Nat} (h:v<2^128):(wValue v).length≤17:=by
  unfold wValue
  rw [List.length_cons,vBytes_len]
  have:=vLen_le h
  omega
theorem wMatch_len {m:SMatch} (h:MOk m):(wMatch m).length≤60:=by
  have h1:=wValue_len h.v
  have h2:=wValue_len h.k
  have h3:=wValue_len h.h
  have h4:=wUint_len m.pfx 1
  unfold wMatch
  rw [List.length_cons]
  split
  · simp only [List.length_append];omega
  · simp
def wEntry (e:SEntry):List UInt8:=wUint e.table 2++wUint e.ms.length 2++e.ms.flatMap wMatch++wUint e.prio 2++wUint e.act 2++wUint e.args.length 2++e.args.flatMap wValue
def p_eAppend:List AV→AHeap→(AV→Prop)→Prop
  | [.slice _ 1 l,.agg le],_,K=>∃ (e:SEntry) (b:List UInt8),(l=bys b∧le=entryC e∧b.length≤1000000∧e.ms.length≤1000000∧e.args.length≤1000000∧COk e)∧K (.slice .any 1 (bys (b++wEntry e)))
  | _,_,_=>False
set_option maxHeartbeats 4000000 in
theorem ok_eAppend:EntOk Tryz.prog 225 (Ent.pure p_eAppend):=by
  refine EntOk.pure fun args H K h=>?_
  unfold p_eAppend at h
  split at h
  rotate_left
  · exact h.elim
  rename_i m1 l le
  obtain ⟨e,b,⟨rfl,rfl,hb,hl1,hl2,he⟩,hK⟩:=h
  refine ⟨_,hK,?_⟩
  clear hK
  generalize hR:b++wEntry e=R
  unfold wEntry at hR
  have w1:=wUint_len e.table 2
  have w2:=wUint_len e.ms.length 2
  have w3:=wUint_len e.prio 2
  have w4:=wUint_len e.act 2
  have w5:=wUint_len e.args.length 2
  refine ACalls.of_aw (Ω:=[(175,Ent.pure p_AppendUint),(223,Ent.pure p_AppendBool),(330,Ent.pure p_AppendValue)]) (T:=assoc [(8,[[],[],[],[2],[],[],[2,3,5]]),(9,[[],[],[],[2],[],[],[2,3,5]])]) mixed (TblOk.cons ok_AppendUint (TblOk.cons ok_AppendBool (TblOk.cons ok_AppendValue TblOk.nil))) Tryz.func225 (by kernel_rfl) (by rfl) (rs:=[.tmp 4]) (by rfl) (by kernel_rfl) (by simp only [Tryz.ntmps225,List.length_cons,List.length_nil];decide) (Nat.le_refl _) fun hcl hlt=>?_
  change aw _ _ _ (KI Tryz.prog [(175,Ent.pure p_AppendUint),(223,Ent.pure p_AppendBool),(330,Ent.pure p_AppendValue)] (aEnd Tryz.prog [.tmp 4] H.nx _ _ (assoc [(8,[[],[],[],[2],[],[],[2,3,5]]),(9,[[],[],[],[2],[],[],[2,3,5]])])) []) _ _
  clear hlt
  simp only [go_sem,byq,entryC,List.length_map,p_AppendUint]
  refine ⟨by omega,by simp only [List.length_append];omega,?_⟩
  obtain ⟨T1,hT1⟩:∃ T1,T1=b++wUint e.table 2++wUint (e.ms.length:Int) 2++e.ms.flatMap wMatch:=⟨_,rfl⟩
  have hB:(b++wUint e.table 2++wUint (e.ms.length:Int) 2).length≤1000010:=by simp only [List.length_append];omega
  refine loop_introW (A:=Nat × List UInt8) (fun x=>[(0,.slice .any 1 (bys x.2)),(3,.ptr H.nx 0),(19,.slice .any 8 (e.ms.map matchAV)),(20,.int .i64 (e.ms.length:Int)),(21,.int .i64 (x.1:Int))]) (fun _=>H.push (.cells (entryC e))) (fun x=>x.1≤e.ms.length∧x.2++(e.ms.drop x.1).flatMap wMatch=T1∧x.2.length≤1000010+60*x.1) (fun x=>e.ms.length - x.1) (0,b++wUint e.table 2++wUint (e.ms.length:Int) 2) ⟨by omega,by rw [hT1];rfl,by dsimp only;omega⟩ ?_ fun x hx=>?_
  · refine ⟨by simp only [zkm,zjy,zkd];omega,by repeat (first | exact AHeap.Le.refl _ | refine AHeap.Le.push ?_ _),closed_cells hcl (ltL_iff.2 fun j hj=>AV.lt_cells (lt_entry e) j hj),?_,?_⟩
    · simp [ltF,zkm,zmv,zmn,lt_sliceL,zlx,lt_map lt_match,lt_vvL]
      try exact ltL_iff.2 fun j hj=>by simp [lt_match,vv,zmz,vc,znc,znd,zmn]
    · simp [subW,wk2,wk1,wkM,Fr.get]
  obtain ⟨k,z⟩:=x
  obtain ⟨hk,hz,hzl⟩:=hx
  dsimp only at hk hz hzl ⊢
  simp only [go_sem]
  refine cond_split (fun hc=>?_) (fun hc=>?_)
  · have hk':k<e.ms.length:=by simp at hc;omega
    obtain ⟨m,hm⟩:∃ m,m=e.ms[k]:=⟨_,rfl⟩
    have hd:e.ms.drop k=m::e.ms.drop (k+1):=by rw [hm];exact List.drop_eq_getElem_cons hk'
    have hmg:=getD_map (f:=matchAV) (l:=e.ms) (k:=k) (x:=m) (by rw [List.getElem?_eq_getElem hk',hm])
    have hmo:=he.ok.mo m (by rw [hm];exact List.getElem_mem hk')
    have hml:=wMatch_len hmo
    have e5:IntKind.i64.wrap ((k:Int)+1)=((k+1:Nat):Int):=by rw [wrap_i64]<;>omega
    have i1:=isV_of hmo.v
    have i2:=isV_of hmo.k
    have i3:=isV_of hmo.h
    have l1:=wValue_len hmo.v
    have l2:=wValue_len hmo.k
    have l3:=wValue_len hmo.h
    have l4:=wUint_len m.pfx 1
    rw [hd,List.flatMap_cons,← List.append_assoc] at hz
    cases hp:m.present
    · have hwm:wMatch m=[0]:=by unfold wMatch;rw [hp];rfl
      rw [hwm] at hz
      simp only [go_sem,byq,entryC,List.length_map,Int.toNat_natCast,hmg,matchAV,matchC,vc,List.cons_append,List.nil_append,hp,p_AppendBool,e5,Bool.false_eq_true,if_false]
      refine ⟨⟨by omega,by omega⟩,by omega,(k+1,z++[0]),⟨by dsimp only;omega,hz,by simp;omega⟩,by dsimp only;omega,by simp only [zkm];omega,by repeat (first | exact AHeap.Le.refl _ | refine AHeap.Le.push ?_ _),closed_cells hcl (ltL_iff.2 fun j hj=>AV.lt_cells (lt_entry e) j hj),?_,?_⟩
      · simp [ltF,zkm,zmv,zmn,lt_sliceL,zlx,lt_map lt_match,lt_vvL]
        try exact ltL_iff.2 fun j hj=>by simp [lt_match,vv,zmz,vc,znc,znd,zmn]
      · simp [subW,wk2,wk1,wkM,Fr.get]
    · have hwm:wMatch m=1::(wValue m.value++wValue m.mask++wUint m.pfx 1++wValue m.high):=by unfold wMatch;rw [hp];rfl
      rw [hwm] at hz
      simp only [go_sem,byq,entryC,List.length_map,Int.toNat_natCast,hmg,matchAV,matchC,vc,List.cons_append,List.nil_append,hp,p_AppendBool,p_AppendUint,p_AppendValue,e5,if_true,i1,i2,i3,vOf_back]
      refine ⟨⟨by omega,by omega⟩,by omega,by simp only [List.length_append,List.length_cons,List.length_nil];omega,by simp only [List.length_append,List.length_cons,List.length_nil];omega,by simp only [List.length_append,List.length_cons,List.length_nil];omega,by simp only [List.length_append,List.length_cons,List.length_nil];omega,(k+1,z++[1]++wValue m.value++wValue m.mask++wUint m.pfx 1++wValue m.high),⟨by dsimp only;omega,by rw [← hz];simp [List.append_assoc],by dsimp only;simp only [List.length_append,List.length_cons,List.length_nil];omega⟩,by dsimp only;omega,by simp only [zkm];omega,by repeat (first | exact AHeap.Le.refl _ | refine AHeap.Le.push ?_ _),closed_cells hcl (ltL_iff.2 fun j hj=>AV.lt_cells (lt_entry e) j hj),?_,?_⟩
      · simp [ltF,zkm,zmv,zmn,lt_sliceL,zlx,lt_map lt_match,lt_vvL]
        try exact ltL_iff.2 fun j hj=>by simp [lt_match,vv,zmz,vc,znc,znd,zmn]
      · simp [subW,wk2,wk1,wkM,Fr.get]
  · have hk':k=e.ms.length:=by simp at hc;omega
    subst hk'
    rw [List.drop_length,List.flatMap_nil,List.append_nil] at hz
    subst hz
    simp only [go_sem,byq,entryC,List.length_map,Int.toNat_natCast,p_AppendUint]
    refine ⟨by omega,by simp only [List.length_append,List.length_cons,List.length_nil];omega,by simp only [List.length_append,List.length_cons,List.length_nil];omega,?_⟩
    have hzb:(z++wUint e.prio 2++wUint e.act 2++wUint (e.args.length:Int) 2).length≤62000000:=by simp only [List.length_append];omega
    have hR2:z++wUint e.prio 2++wUint e.act 2++wUint (e.args.length:Int) 2++e.args.flatMap wValue=R:=by rw [hT1,← hR];simp [List.append_assoc]
    generalize z++wUint e.prio 2++wUint e.act 2++wUint (e.args.length:Int) 2=z2 at *
    refine loop_introW (A:=Nat × List UInt8) (fun x=>[(0,.slice .any 1 (bys x.2)),(60,.slice .any 2 (e.args.map vv)),(61,.int .i64 (e.args.length:Int)),(62,.int .i64 (x.1:Int))]) (fun _=>H) (fun x=>x.1≤e.args.length∧x.2++(e.args.drop x.1).flatMap wValue=R∧x.2.length≤62000000+17*x.1) (fun x=>e.args.length - x.1) (0,z2) ⟨by omega,hR2,by dsimp only;omega⟩ ?_ fun x hx=>?_
    · refine ⟨by (try simp only [zjy,zkd,KI_n0]);omega,by repeat (first | exact AHeap.Le.refl _ | refine AHeap.Le.push ?_ _),hcl,?_,?_⟩
      · simp [ltF,zkm,zmv,zmn,lt_sliceL,zlx,lt_map lt_match,lt_vvL]
        try exact ltL_iff.2 fun j hj=>by simp [lt_match,vv,zmz,vc,znc,znd,zmn]
      · simp [subW,wk2,wk1,wkM,Fr.get]
    obtain ⟨k,y⟩:=x
    obtain ⟨hk,hy,hyl⟩:=hx
    dsimp only at hk hy hyl ⊢
    simp only [go_sem]
    refine cond_split (fun hc=>?_) (fun hc=>?_)
    · have hk':k<e.args.length:=by simp at hc;omega
      obtain ⟨a,ha⟩:∃ a,a=e.args[k]:=⟨_,rfl⟩
      have hd:e.args.drop k=a::e.args.drop (k+1):=by rw [ha];exact List.drop_eq_getElem_cons hk'
      have hag:=getD_map (f:=vv) (l:=e.args) (k:=k) (x:=a) (by rw [List.getElem?_eq_getElem hk',ha])
      have hav:=he.ar a (by rw [ha];exact List.getElem_mem hk')
      have ia:=isV_of hav
      have la:=wValue_len hav
      have e5:IntKind.i64.wrap ((k:Int)+1)=((k+1:Nat):Int):=by rw [wrap_i64]<;>omega
      rw [hd,List.flatMap_cons,← List.append_assoc] at hy
      simp only [go_sem,byq,entryC,List.length_map,Int.toNat_natCast,hag,vv,vc,p_AppendValue,ia,vOf_back,e5]
      refine ⟨⟨by omega,by omega⟩,by omega,(k+1,y++wValue a),⟨by dsimp only;omega,hy,by dsimp only;simp only [List.length_append];omega⟩,by dsimp only;omega,by (try simp only [zkm]);omega,by repeat (first | exact AHeap.Le.refl _ | refine AHeap.Le.push ?_ _),hcl,?_,?_⟩
      · simp [ltF,zkm,zmv,zmn,lt_sliceL,zlx,lt_map lt_match,lt_vvL]
        try exact ltL_iff.2 fun j hj=>by simp [lt_match,vv,zmz,vc,znc,znd,zmn]
      · simp [subW,wk2,wk1,wkM,Fr.get]
    · have hk':k=e.args.length:=by simp at hc;omega
      subst hk'
      rw [List.drop_length,List.flatMap_nil,List.append_nil] at hy
      subst hy
      simp only [go_sem,byq,entryC,List.length_map,Int.toNat_natCast]
      simp (disch:=first | assumption | omega | (simp;done) | (simp;omega) | (simp only [bt,and_true];first | done | omega | (simp;done))) [↓zlw,beq,List.take_of_length_le,List.drop_append,List.take_append,endOk,wk,wk2,wk1,wkM,wkL,wkLL,List.drop_eq_nil_of_le,hcl]
      first | done | repeat (first | exact AHeap.Le.refl _ | refine AHeap.Le.push ?_ _)
end Go.AL

