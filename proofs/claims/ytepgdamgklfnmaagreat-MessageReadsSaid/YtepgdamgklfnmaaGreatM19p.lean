/- Contracts and plain laws, a part of the proof; no condition of its own. -/
import Derived.Test.YtepgdamgklfnmaaGreatM19m
open Go Go.AL Go.Proofs
namespace Go.AL
set_option linter.all false
set_option maxRecDepth 10000

def gKind (k:Nat):Int:=([1,1,2,3]:List Int).getD k 0
def gUpd (S:Sch) (b:List UInt8) (v:Nat):(Int × SEntry) × Nat :=
  let e:=gEntry S b (cp v 2) (cv b (cp v 1) 4)
  ((gKind (cv b (cp v 0) 4),if gKind (cv b (cp v 0) 4)=3 then { e.1 with act:=0,args:=[] } else e.1),e.2)
def e_CUpdate:List AV→AHeap→(AEnd→AHeap→Prop)→Prop
  | [.ptr id 0,.agg l],H,K=>∃ S:Sch,(l=schC S∧GenS S)∧onC (H.get id) fun b v=>K (.ret (updAV (gUpd S b v).1)) (H.set id (codV b (gUpd S b v).2))
  | _,_,_=>False
set_option maxHeartbeats 4000000 in
theorem ok_CUpdate:EntOk Tryz.prog 35 (Ent.effect e_CUpdate):=by
  refine EntOk.effect fun args H K h=>?_
  unfold e_CUpdate at h
  split at h
  rotate_left
  · exact h.elim
  rename_i id l
  obtain ⟨S,⟨rfl,hS⟩,h⟩:=h
  obtain ⟨b,v,hg,hb,hv,hK⟩:=onC_out h
  refine ⟨_,_,hK,?_⟩
  clear hK h
  obtain ⟨R,hR⟩:∃ R,gUpd S b v=R:=⟨_,rfl⟩
  rw [hR]
  unfold gUpd at hR
  refine ACalls.of_aw (Ω:=[(29,Ent.effect e_ZNext),(85,Ent.effect e_CEntry)]) (T:=assoc [(1,[[],[],[],[],[2],[],[],[],[2],[2,6,8],[],[],[2,4,6,8,9,11]]),(801,[[11,73],[100000]])]) mixed (TblOk.cons ok_ZNext (TblOk.cons ok_CEntry TblOk.nil)) Tryz.func35 (by kernel_rfl) (by rfl) (rs:=[.cell 4 73]) (by rfl) (by kernel_rfl) (by simp only [Tryz.ntmps35,List.length_cons,List.length_nil];decide) (by simp only [zkn];omega) fun hcl hlt=>?_
  change aw _ _ _ (KI Tryz.prog [(29,Ent.effect e_ZNext),(85,Ent.effect e_CEntry)] (aEnd Tryz.prog [.cell 4 73] H.nx _ _ (assoc [(1,[[],[],[],[],[2],[],[],[],[2],[2,6,8],[],[],[2,4,6,8,9,11]]),(801,[[11,73],[100000]])])) []) _ _
  clear hlt
  have hid:=AHeap.get_lt hg
  have hne:=ne_nx hid
  have hgc:=get_codV (b:=b) hid
  have hcl2:∀ w,(H.set id (codV b w)).Closed:=fun w=>closed_set hcl codV_lt
  have h4:=cv_lt (b:=b) (v:=cp v 0) (n:=4) (by decide)
  have h41:=cv_lt (b:=b) (v:=cp v 1) (n:=4) (by decide)
  have hL:=getD4 (AV.int .i64) .junk 1 1 2 3 h4
  simp only [go_sem,byq,e_ZNext,e_CEntry,schC,hg,hgc,hne,onC_cod hb,cv_min,codV_min,cp_add,hL,Int.toNat_natCast]
  refine ⟨⟨by decide,by decide⟩,⟨by omega,by omega⟩,⟨by decide,by decide⟩,S,⟨rfl,hS,by omega,by omega⟩,?_⟩
  rw [onS_cod hb (st_entry _ _)]
  unfold gsEntry
  dsimp only at hR ⊢
  generalize gEntry S b (cp v 2) ((cv b (cp v 1) 4:Nat):Int)=E at *
  obtain ⟨e,w⟩:=E
  dsimp only at hR ⊢
  have hk:([1,1,2,3]:List Int).getD (cv b (cp v 0) 4) 0=gKind (cv b (cp v 0) 4):=rfl
  rw [hk]
  generalize gKind (cv b (cp v 0) 4)=kd at *
  simp only [go_sem,byq,entryAV,entryC]
  refine cond_split (fun h3=>?_) (fun h3=>?_)
  · have h3':kd=3:=by simp at h3;exact h3
    rw [if_pos h3'] at hR
    subst hR
    simp only [go_sem,byq,entryAV,entryC]
    refine ⟨?_,by repeat (first | exact AHeap.Le.refl _ | refine AHeap.Le.push ?_ _),hcl2 _,lt_upd _⟩
    simp [wk,wk2,wkL,wk1,wkM,updAV,updC,entryC]
  · have h3':¬ kd=3:=by simp at h3;exact h3
    rw [if_neg h3'] at hR
    subst hR
    simp only [go_sem,byq,entryAV,entryC]
    refine ⟨?_,by repeat (first | exact AHeap.Le.refl _ | refine AHeap.Le.push ?_ _),hcl2 _,lt_upd _⟩
    simp [wk,wk2,wkL,wk1,wkM,updAV,updC,entryC]
end Go.AL


open Go Go.AL Go.Proofs
namespace Go.AL
set_option linter.all false
set_option maxRecDepth 10000

def gUps (S:Sch) (b:List UInt8):Nat→Nat→List (Int × SEntry) × Nat
  | 0,v=>([],v)
  | n+1,v=>((gUpd S b (min v b.length)).1::(gUps S b n (gUpd S b (min v b.length)).2).1,(gUps S b n (gUpd S b (min v b.length)).2).2)
def gRole (k:Nat):Int:=([1,1,2,7,9]:List Int).getD k 0
/-- the request that is made of choices -/
def gReq (S:Sch) (b:List UInt8) (v:Nat):SReq × Nat :=
  let k:=cv b (cp v 0) 6
  let ro:=gRole (cv b (cp v 1) 5)
  if k=0 then ({ zReq with kind:=1,role:=ro,el:=cv b (cp v 2) 5 },cp v 3)
  else if k=2 then ({ zReq with kind:=3,role:=ro,el:=cv b (cp v 2) 5,ups:=(gUps S b (cv b (cp v 3) 5) (cp v 4)).1 },(gUps S b (cv b (cp v 3) 5) (cp v 4)).2)
  else if k=3 then ({ zReq with kind:=4,role:=ro,table:=cv b (cp v 2) 6 },cp v 3)
  else if k=4 then ({ zReq with kind:=5,role:=ro,frm:=cv b (cp v 2) 20,count:=cv b (cp v 3) 26 },cp v 4)
  else if k=5 then ({ zReq with kind:=6,port:=cv b (cp v 2) 20,data:=(gFrame b (min (cp v 3) b.length)).1 },(gFrame b (min (cp v 3) b.length)).2)
  else ({ zReq with kind:=2 },cp v 2)
theorem getD5 {α:Type} (f:Int→α) (d:α) (a b c e g:Int) {k:Nat} (h:k<5):[f a,f b,f c,f e,f g].getD k d=f ([a,b,c,e,g].getD k 0):=by
  match k,h with
  | 0,_ | 1,_ | 2,_ | 3,_ | 4,_=>rfl
def e_CRequest:List AV→AHeap→(AEnd→AHeap→Prop)→Prop
  | [.ptr id 0,.agg l],H,K=>∃ S:Sch,(l=schC S∧GenS S)∧onC (H.get id) fun b v=>K (.ret (reqAV (gReq S b v).1)) (H.set id (codV b (gReq S b v).2))
  | _,_,_=>False
set_option maxHeartbeats 4000000 in
theorem ok_CRequest:EntOk Tryz.prog 13 (Ent.effect e_CRequest):=by
  refine EntOk.effect fun args H K h=>?_
  unfold e_CRequest at h
  split at h
  rotate_left
  · exact h.elim
  rename_i id l
  obtain ⟨S,⟨rfl,hS⟩,h⟩:=h
  obtain ⟨b,v,hg,hb,hv,hK⟩:=onC_out h
  refine ⟨_,_,hK,?_⟩
  clear hK h
  obtain ⟨R,hR⟩:∃ R,gReq S b v=R:=⟨_,rfl⟩
  rw [hR]
  unfold gReq at hR
  dsimp only at hR
  refine ACalls.of_aw (Ω:=[(29,Ent.effect e_ZNext),(35,Ent.effect e_CUpdate),(36,Ent.effect e_CFrame)]) (T:=assoc [(11,[[],[],[],[],[3],[3,4],[1,3,4],[],[1,3,4]]),(8,[[1]])]) mixed (TblOk.cons ok_ZNext (TblOk.cons ok_CUpdate (TblOk.cons ok_CFrame TblOk.nil))) Tryz.func13 (by kernel_rfl) (by rfl) (rs:=[.cell 4 28]) (by rfl) (by kernel_rfl) (by simp only [Tryz.ntmps13,List.length_cons,List.length_nil];decide) (by simp only [zkn];omega) fun hcl hlt=>?_
  change aw _ _ _ (KI Tryz.prog [(29,Ent.effect e_ZNext),(35,Ent.effect e_CUpdate),(36,Ent.effect e_CFrame)] (aEnd Tryz.prog [.cell 4 28] H.nx _ _ (assoc [(11,[[],[],[],[],[3],[3,4],[1,3,4],[],[1,3,4]]),(8,[[1]])])) []) _ _
  clear hlt
  have hid:=AHeap.get_lt hg
  have hne:=ne_nx hid
  have hgc:=get_codV (b:=b) hid
  have hcl2:∀ w,(H.set id (codV b w)).Closed:=fun w=>closed_set hcl codV_lt
  have h6:=cv_lt (b:=b) (v:=cp v 0) (n:=6) (by decide)
  have h5:=cv_lt (b:=b) (v:=cp v 1) (n:=5) (by decide)
  have hL:=getD5 (AV.int .i64) .junk 1 1 2 7 9 h5
  have e1:IntKind.i64.wrap (1+((cv b (cp v 0) 6:Nat):Int))=1+((cv b (cp v 0) 6:Nat):Int):=by rw [wrap_i64]<;>omega
  have hu5:∀ u,IntKind.u64.wrap ((cv b u 5:Nat):Int)=((cv b u 5:Nat):Int):=fun u=>by
    have:=cv_lt (b:=b) (v:=u) (n:=5) (by decide)
    rw [wrap_u64 (by omega) (by omega)]
  have hd5:∀ u,cv b u 5/18446744073709551616=0:=fun u=>by
    have:=cv_lt (b:=b) (v:=u) (n:=5) (by decide)
    omega
  have hm5:∀ u,cv b u 5 % 18446744073709551616=cv b u 5:=fun u=>by
    have:=cv_lt (b:=b) (v:=u) (n:=5) (by decide)
    omega
  simp only [go_sem,byq,e_ZNext,schC,hg,hgc,hne,onC_cod hb,cv_min,codV_min,cp_add,hL,Int.toNat_natCast,e1]
  have hr:([1,1,2,7,9]:List Int).getD (cv b (cp v 1) 5) 0=gRole (cv b (cp v 1) 5):=rfl
  rw [hr]
  refine ⟨⟨by decide,by decide⟩,⟨by decide,by decide⟩,⟨by omega,by omega⟩,?_⟩
  generalize gRole (cv b (cp v 1) 5)=ro at *
  have hk6:cv b (cp v 0) 6=0∨cv b (cp v 0) 6=1∨cv b (cp v 0) 6=2∨cv b (cp v 0) 6=3∨cv b (cp v 0) 6=4∨cv b (cp v 0) 6=5:=by omega
  rcases hk6 with hk | hk | hk | hk | hk | hk
  · have hkk:(1+((cv b (cp v 0) 6:Nat):Int))=1:=by omega
    rw [hkk]
    rw [hk] at hR
    simp only [Nat.reduceEqDiff,if_true,if_false,Nat.succ_ne_self,Nat.zero_ne_one,Nat.one_ne_zero,reduceCtorEq,Nat.reduceEqDiff] at hR
    subst hR
    simp only [go_sem,byq,Int.reduceBEq,e_ZNext,e_CFrame,hg,hgc,hne,onC_cod hb,cv_min,codV_min,cp_add,Int.toNat_natCast,hu5]
    (repeat with_reducible refine And.intro (by exact ⟨by decide,by decide⟩) ?_)
    refine ⟨?_,by repeat (first | exact AHeap.Le.refl _ | refine AHeap.Le.push ?_ _),hcl2 _,lt_req _⟩
    simp [wk,wk2,wkL,wk1,wkM,reqAV,reqC,zReq,hd5,hm5,zkt]
  skip
  · have hkk:(1+((cv b (cp v 0) 6:Nat):Int))=2:=by omega
    rw [hkk]
    rw [hk] at hR
    simp only [Nat.reduceEqDiff,if_true,if_false,Nat.succ_ne_self,Nat.zero_ne_one,Nat.one_ne_zero,reduceCtorEq,Nat.reduceEqDiff] at hR
    subst hR
    simp only [go_sem,byq,Int.reduceBEq,e_ZNext,e_CFrame,hg,hgc,hne,onC_cod hb,cv_min,codV_min,cp_add,Int.toNat_natCast,hu5]
    (repeat with_reducible refine And.intro (by exact ⟨by decide,by decide⟩) ?_)
    refine ⟨?_,by repeat (first | exact AHeap.Le.refl _ | refine AHeap.Le.push ?_ _),hcl2 _,lt_req _⟩
    simp [wk,wk2,wkL,wk1,wkM,reqAV,reqC,zReq,hd5,hm5,zkt]
  skip
  · have hkk:(1+((cv b (cp v 0) 6:Nat):Int))=3:=by omega
    rw [hkk]
    rw [hk] at hR
    simp only [Nat.reduceEqDiff,if_true,if_false,Nat.succ_ne_self,Nat.zero_ne_one,Nat.one_ne_zero,reduceCtorEq,Nat.reduceEqDiff] at hR
    subst hR
    simp only [go_sem,byq,Int.reduceBEq,e_ZNext,e_CFrame,hg,hgc,hne,onC_cod hb,cv_min,codV_min,cp_add,Int.toNat_natCast,hu5]
    have hc5:=cv_lt (b:=b) (v:=cp v 3) (n:=5) (by decide)
    refine ⟨⟨by decide,by decide⟩,?_⟩
    refine weak_cell 5 4 6 (cs:=[.int .i64 3,.int .i64 ro,.int .u64 0,.int .u64 ((cv b (cp v 2) 5:Nat):Int),.slice .nil 1 [],.int .i64 0,.int .i64 0,.int .i64 0,.int .i64 0,.slice .nil 1 []]) rfl (by simp only [go_sem]) rfl ?_
    simp only [blkE,blkP,bhq,Nat.reduceMod,Nat.reduceDiv,stepH,stepM,toMs1,toMs,toMs0,strK,pubK,pubF,pubV,List.take_succ_cons,List.take_zero,List.drop_succ_cons,List.drop_zero,go_sem,byq,Int.reduceBEq,e_ZNext,e_CFrame,hg,hgc,hne,onC_cod hb,cv_min,codV_min,cp_add,Int.toNat_natCast,hu5,List.set_cons_succ,List.set_cons_zero]
    have hcR:∀ (w:Nat) (us:List (Int × SEntry)),((((((H.set id (codV b w)).push (.cells (schC S))).push (.cells [.int .i64 0,.int .i64 0,.int .u64 0,.int .u64 0,.slice .nil 1 [],.int .i64 0,.int .i64 0,.int .i64 0,.int .i64 0,.slice .nil 1 []])).push (.cells [.int .i64 3,.int .i64 ro,.int .u64 0,.int .u64 ((cv b (cp v 2) 5:Nat):Int),.slice (.own (H.nx+1+1+1+1)) 6 (us.map updAV),.int .i64 0,.int .i64 0,.int .i64 0,.int .i64 0,.slice .nil 1 []])).push (.buf 1 5)).push (.buf 6 us.length)).Closed:=fun w us=>by
      have h0:((((((H.set id (codV b w)).push (.cells (schC S))).push (.cells [.int .i64 0,.int .i64 0,.int .u64 0,.int .u64 0,.slice .nil 1 [],.int .i64 0,.int .i64 0,.int .i64 0,.int .i64 0,.slice .nil 1 []])).push (.cells [])).push (.buf 1 5)).push (.buf 6 us.length)).Closed:=by
        repeat' (first | exact hcl2 _ | refine closed_buf ?_ | refine closed_cells ?_ ?_)
        · exact ltL_iff.2 fun j hj=>AV.lt_cells (lt_sch S) j hj
        · simp [lt_sliceL,znc,znd,zmn]
        · trivial
      have h1:=closed_set (i:=H.nx+1+1) (cs:=[.int .i64 3,.int .i64 ro,.int .u64 0,.int .u64 ((cv b (cp v 2) 5:Nat):Int),.slice (.own (H.nx+1+1+1+1)) 6 (us.map updAV),.int .i64 0,.int .i64 0,.int .i64 0,.int .i64 0,.slice .nil 1 []]) h0 (by
        simp [znc,znd,zmn,zkm,zkn,lt_sliceL]
        exact ltL_iff.2 fun j hj=>by rw [List.getElem_map];exact lt_upd _)
      simp only [go_sem,hne] at h1
      exact h1
    generalize hU:gUps S b (cv b (cp v 3) 5) (cp v 4)=U
    refine ⟨⟨by decide,by decide⟩,?_⟩
    refine loop_introW (A:=Nat × Nat × List (Int × SEntry)) (fun x=>[(0,.ptr id 0),(3,.ptr H.nx 0),(4,.ptr (H.nx+1) 0),(5,.ptr (H.nx+1+1) 0),(7,.int .i64 (x.1:Int))]) (fun x=>((((((H.set id (codV b x.2.1)).push (.cells (schC S))).push (.cells [.int .i64 0,.int .i64 0,.int .u64 0,.int .u64 0,.slice .nil 1 [],.int .i64 0,.int .i64 0,.int .i64 0,.int .i64 0,.slice .nil 1 []])).push (.cells [.int .i64 3,.int .i64 ro,.int .u64 0,.int .u64 ((cv b (cp v 2) 5:Nat):Int),.slice (.own (H.nx+1+1+1+1)) 6 (x.2.2.map updAV),.int .i64 0,.int .i64 0,.int .i64 0,.int .i64 0,.slice .nil 1 []])).push (.buf 1 5)).push (.buf 6 x.2.2.length))) (fun x=>x.2.2.length+x.1≤4∧x.2.2++(gUps S b x.1 x.2.1).1=U.1∧(gUps S b x.1 x.2.1).2=U.2) (fun x=>x.1) (cv b (cp v 3) 5,cp v 4,[]) ⟨by simp;omega,by rw [hU];rfl,by rw [hU]⟩ ?_ fun x hx=>?_
    · refine ⟨by simp only [zjy,zkd,zkm,zkn];omega,AHeap.Le.refl _,hcR _ _,?_,?_⟩
      · simp [ltF,zmn,zmv,zkm,zkn]
        try omega
      · simp [subW,wk2,wk1,wkM,Fr.get]
    obtain ⟨n,w,us⟩:=x
    obtain ⟨hn,h1,h2⟩:=hx
    dsimp only at hn h1 h2 ⊢
    simp only [go_sem]
    refine cond_split (fun hc=>?_) (fun hc=>?_)
    · obtain ⟨n,rfl⟩:∃ m,n=m+1:=⟨n - 1,by simp at hc;omega⟩
      have e5:IntKind.i64.wrap (((n+1:Nat):Int) - 1)=((n:Nat):Int):=by rw [wrap_i64]<;>omega
      simp only [go_sem,byq,Int.reduceBEq,e_ZNext,e_CFrame,hg,hgc,hne,onC_cod hb,cv_min,codV_min,cp_add,Int.toNat_natCast,hu5,e_CUpdate,schC,List.set_cons_succ,List.set_cons_zero]
      refine ⟨S,⟨rfl,hS⟩,?_⟩
      try simp only [go_sem,byq,Int.reduceBEq,e_ZNext,e_CFrame,hg,hgc,hne,onC_cod hb,cv_min,codV_min,cp_add,Int.toNat_natCast,hu5,List.set_cons_succ,List.set_cons_zero]
      generalize hE:gUpd S b (min w b.length)=E at *
      simp only [gUps,hE] at h1 h2
      obtain ⟨⟨ek,ee⟩,ew⟩:=E
      simp only [go_sem,byq,updAV,updC,entryC,e5]
      refine ⟨⟨by omega,by omega,fun z hz=>by rw [List.mem_singleton] at hz;subst hz;rfl⟩,(n,ew,us++[(ek,ee)]),⟨by simp only [List.length_append,List.length_cons,List.length_nil];omega,by rw [← h1];simp [List.append_assoc],h2⟩,by dsimp only;omega,?_⟩
      refine ⟨by simp only [zkm,zkn];omega,?_,hcR _ _,?_,?_⟩
      · simp only [List.map_append,List.map_cons,List.map_nil,updAV,updC,entryC,List.length_append,List.length_cons,List.length_nil,schC,List.cons_append,List.nil_append]
        repeat (first | exact AHeap.Le.refl _ | refine AHeap.Le.push ?_ _)
      · simp [ltF,zmn,zmv,zkm,zkn]
        try omega
      · simp [subW,wk2,wk1,wkM,Fr.get]
    · have hn0:n=0:=by simp at hc;omega
      subst hn0
      simp only [gUps,List.append_nil] at h1 h2
      rw [h1]
      simp only [go_sem,byq,Int.reduceBEq,e_ZNext,e_CFrame,hg,hgc,hne,onC_cod hb,cv_min,codV_min,cp_add,Int.toNat_natCast,hu5]
      rw [← h2]
      refine ⟨?_,by repeat (first | exact AHeap.Le.refl _ | refine AHeap.Le.push ?_ _),hcl2 _,lt_req _⟩
      simp [wk,wk2,wkL,wk1,wkM,reqAV,reqC,zReq,hd5,hm5,zkt]
  skip
  · have hkk:(1+((cv b (cp v 0) 6:Nat):Int))=4:=by omega
    rw [hkk]
    rw [hk] at hR
    simp only [Nat.reduceEqDiff,if_true,if_false,Nat.succ_ne_self,Nat.zero_ne_one,Nat.one_ne_zero,reduceCtorEq,Nat.reduceEqDiff] at hR
    subst hR
    simp only [go_sem,byq,Int.reduceBEq,e_ZNext,e_CFrame,hg,hgc,hne,onC_cod hb,cv_min,codV_min,cp_add,Int.toNat_natCast,hu5]
    (repeat with_reducible refine And.intro (by exact ⟨by decide,by decide⟩) ?_)
    refine ⟨?_,by repeat (first | exact AHeap.Le.refl _ | refine AHeap.Le.push ?_ _),hcl2 _,lt_req _⟩
    simp [wk,wk2,wkL,wk1,wkM,reqAV,reqC,zReq,hd5,hm5,zkt]
  skip
  · have hkk:(1+((cv b (cp v 0) 6:Nat):Int))=5:=by omega
    rw [hkk]
    rw [hk] at hR
    simp only [Nat.reduceEqDiff,if_true,if_false,Nat.succ_ne_self,Nat.zero_ne_one,Nat.one_ne_zero,reduceCtorEq,Nat.reduceEqDiff] at hR
    subst hR
    simp only [go_sem,byq,Int.reduceBEq,e_ZNext,e_CFrame,hg,hgc,hne,onC_cod hb,cv_min,codV_min,cp_add,Int.toNat_natCast,hu5]
    (repeat with_reducible refine And.intro (by exact ⟨by decide,by decide⟩) ?_)
    refine ⟨?_,by repeat (first | exact AHeap.Le.refl _ | refine AHeap.Le.push ?_ _),hcl2 _,lt_req _⟩
    simp [wk,wk2,wkL,wk1,wkM,reqAV,reqC,zReq,hd5,hm5,zkt]
  skip
  · have hkk:(1+((cv b (cp v 0) 6:Nat):Int))=6:=by omega
    rw [hkk]
    rw [hk] at hR
    simp only [Nat.reduceEqDiff,if_true,if_false,Nat.succ_ne_self,Nat.zero_ne_one,Nat.one_ne_zero,reduceCtorEq,Nat.reduceEqDiff] at hR
    subst hR
    simp only [go_sem,byq,Int.reduceBEq,e_ZNext,e_CFrame,hg,hgc,hne,onC_cod hb,cv_min,codV_min,cp_add,Int.toNat_natCast,hu5]
    refine ⟨⟨by decide,by decide⟩,?_,by repeat (first | exact AHeap.Le.refl _ | refine AHeap.Le.push ?_ _),hcl2 _,lt_req _⟩
    simp [wk,wk2,wkL,wk1,wkM,reqAV,reqC,zReq,hd5,hm5,zkt]
end Go.AL


open Go Go.AL Go.Proofs
namespace Go.AL
set_option linter.all false
set_option maxRecDepth 10000

def p_begun19:List AV→AHeap→(AV→Prop)→Prop
  | [],_,K=>K (.bool true)
  | _,_,_=>False
theorem ok_begun19:EntOk Tryz.prog 10 (Ent.pure p_begun19):=by
  refine EntOk.pure fun args H K h=>?_
  unfold p_begun19 at h
  split at h
  rotate_left
  · exact h.elim
  refine ⟨_,h,?_⟩
  clear h
  refine ACalls.of_aw (Ω:=[(15,Ent.pure p_mEncR)]) (T:=assoc [(1,[[4]])]) mixed (TblOk.cons ok_mEncR TblOk.nil) Tryz.func10 (by kernel_rfl) (by rfl) (rs:=[.tmp 0]) (by rfl) (by kernel_rfl) (by simp only [Tryz.ntmps10,List.length_cons,List.length_nil];decide) (Nat.le_refl _) fun hcl hlt=>?_
  change aw _ _ _ (KI Tryz.prog [(15,Ent.pure p_mEncR)] (aEnd Tryz.prog [.tmp 0] H.nx _ _ (assoc [(1,[[4]])])) []) _ _
  clear hlt
  simp only [blkE,blkP,bhq,Nat.reduceMod,Nat.reduceDiv,stepH,stepM,toMs1,toMs,toMs0,strK,pubK,pubF,pubV,List.take_succ_cons,List.take_zero,List.drop_succ_cons,List.drop_zero,go_sem,byq,p_mEncR]
  refine weak_slot 4 (reqAV ⟨2,0,0,[],0,0,0,0,[]⟩) ?_ ?_
  · simp [Fr.get,reqAV,reqC,wkD_agg,wkD_slice,wkDL_cons,wkDL_nil,wkDR_cons,wkDR_nil,wkD_int,wkM,wkDR_same,zkt]
  simp only [blkE,blkP,bhq,Nat.reduceMod,Nat.reduceDiv,stepH,stepM,toMs1,toMs,toMs0,strK,pubK,pubF,pubV,List.take_succ_cons,List.take_zero,List.drop_succ_cons,List.drop_zero,go_sem,byq,p_mEncR,reqAV]
  refine ⟨⟨2,0,0,[],0,0,0,0,[]⟩,⟨rfl,⟨Nat.two_pow_pos 128,Nat.zero_le _,Nat.zero_le _,fun u hu=>by cases hu⟩⟩,?_⟩
  have he:encR ⟨2,0,0,[],0,0,0,0,[]⟩=([2],0):=by decide
  rw [he]
  simp (disch:=first | assumption | omega | (simp;done) | (simp;omega) | (simp only [bt,and_true];first | done | omega | (simp;done))) [↓zlw,beq,List.take_of_length_le,List.drop_append,List.take_append,endOk,wk,wk2,wk1,wkM,wkL,wkLL,List.drop_eq_nil_of_le,hcl]
  exact both_split (fun _=>trivial) (fun h=>by cases h)
end Go.AL

