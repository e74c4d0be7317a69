/- Contracts and plain laws, a part of the proof; no condition of its own. -/
import Derived.Test.YthpglnacipgolaaGreatS11h
open List renaming length_cons → yaz, length_nil → yba, length_map → ybb, cons_append → yal, nil_append → yak, append_nil → yaj, take_of_length_le → ybc, drop_append → ybd, take_append → ybe, drop_eq_nil_of_le → ybf
open Go Go.AL Go.Proofs
namespace Go.AL
set_option linter.all false
set_option maxRecDepth 10000

def e_rAppend10:List AV→AHeap→(AEnd→AHeap→Prop)→Prop
  | [.slice (.own id) 1 l,.agg le],H,K=>∃ (e:SEntry) (b:List UInt8),(l=bys b∧le=entryC e∧b.length≤1000000∧e.ms.length≤1000000∧e.args.length≤1000000∧COk e∧H.get id=some (.buf 1 b.length))∧K (.ret (.slice (.own id) 1 (bys (b++wEntry e)))) (H.set id (.buf 1 (b++wEntry e).length))
  | _,_,_=>False
set_option maxHeartbeats 4000000 in
theorem ok_rAppend10:EntOk Tryz.prog 92 (Ent.effect e_rAppend10):=by
  refine EntOk.effect fun args H K h=>?_
  unfold e_rAppend10 at h
  split at h
  rotate_left
  · exact h.elim
  rename_i id l le
  obtain ⟨e,b,⟨rfl,rfl,hb,hl1,hl2,he,hid⟩,hK⟩:=h
  refine ⟨_,_,hK,?_⟩
  clear hK
  generalize hR:b++wEntry e=R
  unfold wEntry at hR
  have w1:=wUint_len e.table 2
  have w2:=wUint_len e.ms.length 2
  have w3:=wUint_len e.prio 2
  have w4:=wUint_len e.act 2
  have w5:=wUint_len e.args.length 2
  refine ACalls.of_aw (Ω:=[(90,Ent.effect e_rUint),(91,Ent.effect e_rBool),(227,Ent.effect e_rValue)]) (T:=assoc [(8,[[],[],[],[2],[],[],[2,3,5]]),(9,[[],[],[],[2],[],[],[2,3,5]])]) mixed (TblOk.cons ok_rUint (TblOk.cons ok_rBool (TblOk.cons ok_rValue TblOk.nil))) Tryz.func92 (by kernel_rfl) (by rfl) (rs:=[.tmp 4]) (by rfl) (by kernel_rfl) (by simp only [Tryz.ntmps92,yaz,yba];decide) (Nat.le_refl _) fun hcl hlt=>?_
  change aw _ _ _ (KI Tryz.prog [(90,Ent.effect e_rUint),(91,Ent.effect e_rBool),(227,Ent.effect e_rValue)] (aEnd Tryz.prog [.tmp 4] H.nx _ _ (assoc [(8,[[],[],[],[2],[],[],[2,3,5]]),(9,[[],[],[],[2],[],[],[2,3,5]])])) []) _ _
  clear hlt
  have hl0:=AHeap.get_lt hid
  have hne:=far_of hl0
  have hcs:∀ q,(H.set id (.buf 1 q)).Closed:=fun q=>closed_set_buf hcl
  have hgs:∀ q,(H.set id (.buf 1 q)).get id=some (.buf 1 q):=fun q=>AHeap.get_set_same _ _ hl0
  simp only [go_sem,byq,hne,hid,hgs,zks,← List.length_append,entryC,ybb,e_rUint]
  (repeat with_reducible refine And.intro (by first | omega | (simp only [List.length_append,yaz,yba];omega) | (simp;done) | (simp;omega)) ?_)
  obtain ⟨T1,hT1⟩:∃ T1,T1=b++wUint e.table 2++wUint (e.ms.length:Int) 2++e.ms.flatMap wMatch:=⟨_,rfl⟩
  have hB:(b++wUint e.table 2++wUint (e.ms.length:Int) 2).length≤1000010:=by simp only [List.length_append];omega
  refine loop_introW (A:=Nat × List UInt8) (fun x=>[(0,.slice (.own id) 1 (bys x.2)),(3,.ptr H.nx 0),(19,.slice .any 8 (e.ms.map matchAV)),(20,.int .i64 (e.ms.length:Int)),(21,.int .i64 (x.1:Int))]) (fun x=>(H.set id (.buf 1 x.2.length)).push (.cells (entryC e))) (fun x=>x.1≤e.ms.length∧x.2++(e.ms.drop x.1).flatMap wMatch=T1∧x.2.length≤1000010+60*x.1) (fun x=>e.ms.length - x.1) (0,b++wUint e.table 2++wUint (e.ms.length:Int) 2) ⟨by omega,by rw [hT1];rfl,by dsimp only;omega⟩ ?_ fun x hx=>?_
  · refine ⟨by simp only [zkm,zkn,zjy,zkd];omega,by (try dsimp only);(try simp only [List.length_append,yaz,yba,Nat.zero_add]);repeat (first | exact AHeap.Le.refl _ | refine AHeap.Le.push ?_ _),closed_cells (hcs _) (ltL_iff.2 fun j hj=>AV.lt_cells (lt_entry e) j hj),?_,?_⟩
    · simp [ltF,hl0,zkm,zkn,zmv,zmn,lt_sliceL,zlx,lt_map lt_match,lt_vvL]
      try exact ltL_iff.2 fun j hj=>by simp [lt_match,vv,zmz,vc,znc,znd,zmn]
      try omega
    · simp [subW,wk2,wk1,wkM,Fr.get]
  obtain ⟨k,z⟩:=x
  obtain ⟨hk,hz,hzl⟩:=hx
  dsimp only at hk hz hzl ⊢
  simp only [go_sem]
  refine cond_split (fun hc=>?_) (fun hc=>?_)
  · have hk':k<e.ms.length:=by simp at hc;omega
    obtain ⟨m,hm⟩:∃ m,m=e.ms[k]:=⟨_,rfl⟩
    have hd:e.ms.drop k=m::e.ms.drop (k+1):=by rw [hm];exact List.drop_eq_getElem_cons hk'
    have hmg:=getD_map (f:=matchAV) (l:=e.ms) (k:=k) (x:=m) (by rw [List.getElem?_eq_getElem hk',hm])
    have hmo:=he.ok.mo m (by rw [hm];exact List.getElem_mem hk')
    have hml:=wMatch_len hmo
    have e5:IntKind.i64.wrap ((k:Int)+1)=((k+1:Nat):Int):=by rw [wrap_i64]<;>omega
    have i1:=isV_of hmo.v
    have i2:=isV_of hmo.k
    have i3:=isV_of hmo.h
    have l1:=wValue_len hmo.v
    have l2:=wValue_len hmo.k
    have l3:=wValue_len hmo.h
    have l4:=wUint_len m.pfx 1
    rw [hd,List.flatMap_cons,← List.append_assoc] at hz
    cases hp:m.present
    · have hwm:wMatch m=[0]:=by unfold wMatch;rw [hp];rfl
      rw [hwm] at hz
      simp only [go_sem,byq,hne,hid,hgs,zks,← List.length_append,entryC,ybb,Int.toNat_natCast,hmg,matchAV,matchC,vc,yal,yak,hp,e_rBool,e5,Bool.false_eq_true,if_false]
      (repeat with_reducible refine And.intro (by first | omega | (simp only [List.length_append,yaz,yba];omega) | (simp;done) | (simp;omega)) ?_)
      refine ⟨(k+1,z++[0]),⟨by dsimp only;omega,hz,by simp;omega⟩,by dsimp only;omega,by simp only [zkm,zkn];omega,by (try dsimp only);(try simp only [List.length_append,yaz,yba,Nat.zero_add]);repeat (first | exact AHeap.Le.refl _ | refine AHeap.Le.push ?_ _),closed_cells (hcs _) (ltL_iff.2 fun j hj=>AV.lt_cells (lt_entry e) j hj),?_,?_⟩
      · simp [ltF,hl0,zkm,zkn,zmv,zmn,lt_sliceL,zlx,lt_map lt_match,lt_vvL]
        try exact ltL_iff.2 fun j hj=>by simp [lt_match,vv,zmz,vc,znc,znd,zmn]
        try omega
      · simp [subW,wk2,wk1,wkM,Fr.get]
    · have hwm:wMatch m=1::(wValue m.value++wValue m.mask++wUint m.pfx 1++wValue m.high):=by unfold wMatch;rw [hp];rfl
      rw [hwm] at hz
      simp only [go_sem,byq,hne,hid,hgs,zks,← List.length_append,entryC,ybb,Int.toNat_natCast,hmg,matchAV,matchC,vc,yal,yak,hp,e_rBool,e_rUint,e_rValue,e5,if_true,i1,i2,i3,vOf_back]
      (repeat with_reducible refine And.intro (by first | omega | (simp only [List.length_append,yaz,yba];omega) | (simp;done) | (simp;omega)) ?_)
      refine ⟨(k+1,z++[1]++wValue m.value++wValue m.mask++wUint m.pfx 1++wValue m.high),⟨by dsimp only;omega,by rw [← hz];simp [List.append_assoc],by dsimp only;simp only [List.length_append,yaz,yba];omega⟩,by dsimp only;omega,by simp only [zkm,zkn];omega,by (try dsimp only);(try simp only [List.length_append,yaz,yba,Nat.zero_add]);repeat (first | exact AHeap.Le.refl _ | refine AHeap.Le.push ?_ _),closed_cells (hcs _) (ltL_iff.2 fun j hj=>AV.lt_cells (lt_entry e) j hj),?_,?_⟩
      · simp [ltF,hl0,zkm,zkn,zmv,zmn,lt_sliceL,zlx,lt_map lt_match,lt_vvL]
        try exact ltL_iff.2 fun j hj=>by simp [lt_match,vv,zmz,vc,znc,znd,zmn]
        try omega
      · simp [subW,wk2,wk1,wkM,Fr.get]
  · have hk':k=e.ms.length:=by simp at hc;omega
    subst hk'
    rw [List.drop_length,List.flatMap_nil,yaj] at hz
    subst hz
    simp only [go_sem,byq,hne,hid,hgs,zks,← List.length_append,entryC,ybb,Int.toNat_natCast,e_rUint]
    (repeat with_reducible refine And.intro (by first | omega | (simp only [List.length_append,yaz,yba];omega) | (simp;done) | (simp;omega)) ?_)
    have hzb:(z++wUint e.prio 2++wUint e.act 2++wUint (e.args.length:Int) 2).length≤62000000:=by simp only [List.length_append];omega
    have hR2:z++wUint e.prio 2++wUint e.act 2++wUint (e.args.length:Int) 2++e.args.flatMap wValue=R:=by rw [hT1,← hR];simp [List.append_assoc]
    generalize z++wUint e.prio 2++wUint e.act 2++wUint (e.args.length:Int) 2=z2 at *
    refine loop_introW (A:=Nat × List UInt8) (fun x=>[(0,.slice (.own id) 1 (bys x.2)),(60,.slice .any 2 (e.args.map vv)),(61,.int .i64 (e.args.length:Int)),(62,.int .i64 (x.1:Int))]) (fun x=>H.set id (.buf 1 x.2.length)) (fun x=>x.1≤e.args.length∧x.2++(e.args.drop x.1).flatMap wValue=R∧x.2.length≤62000000+17*x.1) (fun x=>e.args.length - x.1) (0,z2) ⟨by omega,hR2,by dsimp only;omega⟩ ?_ fun x hx=>?_
    · refine ⟨by (try simp only [zjy,zkd,KI_n0,zkn,zkm]);omega,by (try dsimp only);(try simp only [List.length_append,yaz,yba,Nat.zero_add]);repeat (first | exact AHeap.Le.refl _ | refine AHeap.Le.push ?_ _),hcs _,?_,?_⟩
      · simp [ltF,hl0,zkm,zkn,zmv,zmn,lt_sliceL,zlx,lt_map lt_match,lt_vvL]
        try exact ltL_iff.2 fun j hj=>by simp [lt_match,vv,zmz,vc,znc,znd,zmn]
        try omega
      · simp [subW,wk2,wk1,wkM,Fr.get]
    obtain ⟨k,y⟩:=x
    obtain ⟨hk,hy,hyl⟩:=hx
    dsimp only at hk hy hyl ⊢
    simp only [go_sem]
    refine cond_split (fun hc=>?_) (fun hc=>?_)
    · have hk':k<e.args.length:=by simp at hc;omega
      obtain ⟨a,ha⟩:∃ a,a=e.args[k]:=⟨_,rfl⟩
      have hd:e.args.drop k=a::e.args.drop (k+1):=by rw [ha];exact List.drop_eq_getElem_cons hk'
      have hag:=getD_map (f:=vv) (l:=e.args) (k:=k) (x:=a) (by rw [List.getElem?_eq_getElem hk',ha])
      have hav:=he.ar a (by rw [ha];exact List.getElem_mem hk')
      have ia:=isV_of hav
      have la:=wValue_len hav
      have e5:IntKind.i64.wrap ((k:Int)+1)=((k+1:Nat):Int):=by rw [wrap_i64]<;>omega
      rw [hd,List.flatMap_cons,← List.append_assoc] at hy
      simp only [go_sem,byq,hne,hid,hgs,zks,← List.length_append,entryC,ybb,Int.toNat_natCast,hag,vv,vc,e_rValue,ia,vOf_back,e5]
      (repeat with_reducible refine And.intro (by first | omega | (simp only [List.length_append,yaz,yba];omega) | (simp;done) | (simp;omega)) ?_)
      refine ⟨(k+1,y++wValue a),⟨by dsimp only;omega,hy,by dsimp only;simp only [List.length_append];omega⟩,by dsimp only;omega,by (try simp only [zkm,zkn]);omega,by (try dsimp only);(try simp only [List.length_append,yaz,yba,Nat.zero_add]);repeat (first | exact AHeap.Le.refl _ | refine AHeap.Le.push ?_ _),hcs _,?_,?_⟩
      · simp [ltF,hl0,zkm,zkn,zmv,zmn,lt_sliceL,zlx,lt_map lt_match,lt_vvL]
        try exact ltL_iff.2 fun j hj=>by simp [lt_match,vv,zmz,vc,znc,znd,zmn]
        try omega
      · simp [subW,wk2,wk1,wkM,Fr.get]
    · have hk':k=e.args.length:=by simp at hc;omega
      subst hk'
      rw [List.drop_length,List.flatMap_nil,yaj] at hy
      subst hy
      simp only [go_sem,byq,hne,hid,hgs,zks,← List.length_append,entryC,ybb,Int.toNat_natCast]
      simp (disch:=first | assumption | omega | (simp;done) | (simp;omega) | (simp only [bt,and_true];first | done | omega | (simp;done))) [↓zlw,beq,ybc,ybd,ybe,endOk,wk,wk2,wk1,wkM,wkL,wkLL,ybf,hcs]
      try exact hl0
      first | done | repeat (first | exact AHeap.Le.refl _ | refine AHeap.Le.push ?_ _)
end Go.AL


open Go Go.AL Go.Proofs
namespace Go.AL
set_option linter.all false
set_option maxRecDepth 10000

def p_rSame10:List AV→AHeap→(AV→Prop)→Prop
  | [.agg l,.agg k],_,K=>∃ e f:SEntry,(l=entryC e∧k=entryC f∧COk e∧COk f)∧K (.bool (cmpE e f==0))
  | _,_,_=>False
theorem ok_rSame10:EntOk Tryz.prog 148 (Ent.pure p_rSame10):=by
  refine EntOk.pure fun args H K h=>?_
  unfold p_rSame10 at h
  split at h
  rotate_left
  · exact h.elim
  rename_i l k
  obtain ⟨e,f,⟨rfl,rfl,he,hf⟩,hK⟩:=h
  refine ⟨_,hK,?_⟩
  clear hK
  refine ACalls.of_aw (Ω:=[(279,Ent.pure p_rCompareE)]) (T:=assoc []) mixed (TblOk.cons ok_rCompareE TblOk.nil) Tryz.func148 (by kernel_rfl) (by rfl) (rs:=[.tmp 4]) (by rfl) (by kernel_rfl) (by simp only [Tryz.ntmps148,yaz,yba];decide) (Nat.le_refl _) fun hcl hlt=>?_
  change aw _ _ _ (KI Tryz.prog [(279,Ent.pure p_rCompareE)] (aEnd Tryz.prog [.tmp 4] H.nx _ _ (assoc [])) []) _ _
  clear hlt
  simp only [go_sem,entryC,p_rCompareE]
  refine ⟨e,f,⟨rfl,rfl,he,hf⟩,?_⟩
  try simp only [go_sem]
  simp (disch:=first | assumption | omega | (simp;done) | (simp;omega) | (simp only [bt,and_true];first | done | omega | (simp;done))) [↓zlw,beq,ybc,ybd,ybe,endOk,wk,wk2,wk1,wkM,wkL,wkLL,ybf,hcl]
  first | done | repeat (first | exact AHeap.Le.refl _ | refine AHeap.Le.push ?_ _)
end Go.AL

