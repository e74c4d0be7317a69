/- Contracts and plain laws, a part of the proof; no condition of its own. -/
import Derived.Test.YthpglnacipgolaaGreatS11c
open List renaming length_cons → yaz, length_nil → yba, length_map → ybb, cons_append → yal, nil_append → yak, take_of_length_le → ybc, drop_append → ybd, take_append → ybe, drop_eq_nil_of_le → ybf, take_succ_cons → yaq, take_zero → yar, drop_succ_cons → yao, drop_zero → yap
open Go Go.AL Go.Proofs
namespace Go.AL
set_option linter.all false
set_option maxRecDepth 10000

theorem firstI_zero:∀ {l:List Int},firstI l=0↔∀ x∈l,x=0
  | []=>by simp [firstI]
  | x::l=>by
    have ih:=firstI_zero (l:=l)
    unfold firstI
    by_cases hx:x=0
    · subst hx
      simp [ih]
    · simp [hx]
theorem cmpI_eq {a b:Int}:cmpI a b=0↔a=b:=by
  unfold cmpI
  split
  · constructor<;>intro h<;>omega
  · split<;>constructor<;>intro h<;>omega
theorem cmpN_eq {a b:Nat}:cmpN a b=0↔a=b:=by
  unfold cmpN
  split
  · simp [*]
  · split<;>simp [*]
theorem pI_eq {m n:SMatch}:pI m=pI n↔m.present=n.present:=by
  unfold pI
  cases m.present<;>cases n.present<;>simp
theorem cmpM_eq {m n:SMatch}:cmpM m n=0↔m=n:=by
  unfold cmpM
  rw [firstI_zero]
  simp only [List.mem_cons,List.not_mem_nil,or_false,forall_eq_or_imp,forall_eq,cmpI_eq,cmpN_eq,pI_eq]
  obtain ⟨a,b,c,d,e⟩:=m
  obtain ⟨a',b',c',d',e'⟩:=n
  simp
theorem cmpL_eq {α:Type} {f:α→α→Int} (hf:∀ x y,f x y=0↔x=y):∀ {xs ys:List α},cmpL f xs ys=0↔xs=ys
  | [],[]=>by simp [cmpL]
  | [],_::_=>by simp [cmpL]
  | _::_,[]=>by simp [cmpL]
  | x::xs,y::ys=>by
    have ih:=cmpL_eq hf (xs:=xs) (ys:=ys)
    unfold cmpL
    by_cases h:f x y=0
    · have:=(hf x y).1 h
      subst this
      rw [if_neg (by simp [h]),ih]
      simp
    · have hne:x≠y:=fun e=>h ((hf x y).2 e)
      rw [if_pos (by simp [h])]
      simp [h,hne]
theorem cmpE_eq {e f:SEntry}:cmpE e f=0↔e=f:=by
  unfold cmpE
  rw [firstI_zero]
  simp only [List.mem_cons,List.not_mem_nil,or_false,forall_eq_or_imp,forall_eq,cmpI_eq,cmpL_eq (fun _ _=>cmpM_eq),cmpL_eq (fun _ _=>cmpN_eq)]
  obtain ⟨a,b,c,d,e⟩:=e
  obtain ⟨a',b',c',d',e'⟩:=f
  simp only [SEntry.mk.injEq]
  constructor
  · rintro ⟨h1,h2,h3,h4,h5⟩;exact ⟨h1,h3,h2.symm,h4,h5⟩
  · rintro ⟨h1,h2,h3,h4,h5⟩;exact ⟨h1,h3.symm,h2,h4,h5⟩
def sameK (e f:SEntry):Bool:=decide (e.table=f.table)&&(decide (e.ms=f.ms)&&decide (e.prio=f.prio))
def p_EqM:List AV→AHeap→(AV→Prop)→Prop
  | [.slice _ 8 l,.slice _ 8 k],_,K=>∃ ms ns:List SMatch,(l=ms.map matchAV∧k=ns.map matchAV∧ms.length≤140737488355328∧ns.length≤140737488355328)∧K (.bool (decide (ms=ns)))
  | _,_,_=>False
set_option maxHeartbeats 2000000 in
theorem ok_EqM:EntOk Tryz.prog 338 (Ent.pure p_EqM):=by
  refine EntOk.pure fun args H K h=>?_
  unfold p_EqM at h
  split at h
  rotate_left
  · exact h.elim
  rename_i m1 l m2 k
  obtain ⟨ms,ns,⟨rfl,rfl,hl1,hl2⟩,hK⟩:=h
  refine ⟨_,hK,?_⟩
  clear hK
  by_cases hlen:ms.length=ns.length
  · have d0:(((ms.length:Nat):Int) != ((ns.length:Nat):Int))=false:=by simp [hlen]
    generalize hR:decide (ms=ns)=R
    refine ACalls.of_aw (Ω:=[]) (T:=assoc []) mixed TblOk.nil Tryz.func338 (by kernel_rfl) (by rfl) (rs:=[.tmp 4]) (by rfl) (by kernel_rfl) (by simp only [Tryz.ntmps338,yaz,yba];decide) (Nat.le_refl _) fun hcl hlt=>?_
    change aw _ _ _ (KI Tryz.prog [] (aEnd Tryz.prog [.tmp 4] H.nx _ _ (assoc [])) []) _ _
    have hm1:AV.lt H.nx (.slice m1 8 (ms.map matchAV)):=hlt _ (by simp)
    have hm2:AV.lt H.nx (.slice m2 8 (ns.map matchAV)):=hlt _ (by simp)
    clear hlt
    simp only [go_sem,ybb,d0]
    refine loop_introW (A:=Nat) (fun k=>[(0,.slice m1 8 (ms.map matchAV)),(1,.slice m2 8 (ns.map matchAV)),(12,.int .i64 (ms.length:Int)),(13,.int .i64 (k:Int))]) (fun _=>H) (fun k=>k≤ms.length∧decide (ms.drop k=ns.drop k)=R) (fun k=>ms.length - k) 0 ⟨by omega,hR⟩ ?_ fun k hk=>?_
    · refine ⟨Nat.le_refl _,AHeap.Le.refl _,hcl,?_,?_⟩
      · simp [ltF,zmn,hm1,hm2]
      · simp [subW,wk2,wk1,wkM,Fr.get]
    clear hR
    obtain ⟨hk1,hR⟩:=hk
    simp only [go_sem]
    refine cond_split (fun hc=>?_) (fun hc=>?_)
    · have hk':k<ms.length:=by simp at hc;omega
      have hk3:k<ns.length:=by omega
      obtain ⟨x,hx⟩:∃ x,x=ms[k]:=⟨_,rfl⟩
      have hd:ms.drop k=x::ms.drop (k+1):=by rw [hx];exact List.drop_eq_getElem_cons hk'
      have hg:=getD_map (f:=matchAV) (l:=ms) (k:=k) (x:=x) (by rw [List.getElem?_eq_getElem hk',hx])
      have e5:IntKind.i64.wrap ((k:Int)+1)=((k+1:Nat):Int):=by rw [wrap_i64]<;>omega
      obtain ⟨y,hy⟩:∃ y,y=ns[k]:=⟨_,rfl⟩
      have hd2:ns.drop k=y::ns.drop (k+1):=by rw [hy];exact List.drop_eq_getElem_cons hk3
      have hg2:=getD_map (f:=matchAV) (l:=ns) (k:=k) (x:=y) (by rw [List.getElem?_eq_getElem hk3,hy])
      rw [hd,hd2] at hR
      by_cases hxy:x=y
      · have dxy:decide (x=y)=true:=decide_eq_true hxy
        have hR':decide (ms.drop (k+1)=ns.drop (k+1))=R:=by
          rw [← hR,decide_eq_decide,hxy];simp
        simp only [go_sem,Int.toNat_natCast,ybb,hg,hg2,matchAV,matchC,vc,yal,yak,teq_matchV,eqg_matchV,Bool.bne_false,dxy,Bool.bne_true,Bool.not_true,e5]
        refine ⟨⟨by omega,by omega⟩,⟨by omega,by omega⟩,k+1,⟨by omega,hR'⟩,by omega,Nat.le_refl _,AHeap.Le.refl _,hcl,?_,?_⟩
        · simp [ltF,zmn,hm1,hm2]
        · simp [subW,wk2,wk1,wkM,Fr.get]
      · have dxy:decide (x=y)=false:=decide_eq_false hxy
        have hR':R=false:=by
          rw [← hR];refine decide_eq_false fun h=>hxy ?_
          exact (List.cons.inj h).1
        subst hR'
        simp only [go_sem,Int.toNat_natCast,ybb,hg,hg2,matchAV,matchC,vc,yal,yak,teq_matchV,eqg_matchV,Bool.bne_false,dxy,Bool.bne_true,Bool.not_false]
        refine ⟨⟨by omega,by omega⟩,⟨by omega,by omega⟩,?_⟩
        simp (disch:=first | assumption | omega | (simp;done) | (simp;omega) | (simp only [bt,and_true];first | done | omega | (simp;done))) [↓zlw,beq,ybc,ybd,ybe,endOk,wk,wk2,wk1,wkM,wkL,wkLL,ybf,hcl]
    · have hk':k=ms.length:=by simp at hc;omega
      rw [ybf (by omega),ybf (by omega)] at hR
      have hR':R=true:=by rw [← hR];rfl
      subst hR'
      simp only [go_sem]
      simp (disch:=first | assumption | omega | (simp;done) | (simp;omega) | (simp only [bt,and_true];first | done | omega | (simp;done))) [↓zlw,beq,ybc,ybd,ybe,endOk,wk,wk2,wk1,wkM,wkL,wkLL,ybf,hcl]
  · have d0:(((ms.length:Nat):Int) != ((ns.length:Nat):Int))=true:=by simp;omega
    have hR:decide (ms=ns)=false:=decide_eq_false fun h=>hlen (by rw [h])
    rw [hR]
    refine ACalls.of_aw (Ω:=[]) (T:=assoc []) mixed TblOk.nil Tryz.func338 (by kernel_rfl) (by rfl) (rs:=[.tmp 4]) (by rfl) (by kernel_rfl) (by simp only [Tryz.ntmps338,yaz,yba];decide) (Nat.le_refl _) fun hcl hlt=>?_
    change aw _ _ _ (KI Tryz.prog [] (aEnd Tryz.prog [.tmp 4] H.nx _ _ (assoc [])) []) _ _
    clear hlt
    simp only [go_sem,ybb,d0]
    simp (disch:=first | assumption | omega | (simp;done) | (simp;omega) | (simp only [bt,and_true];first | done | omega | (simp;done))) [↓zlw,beq,ybc,ybd,ybe,endOk,wk,wk2,wk1,wkM,wkL,wkLL,ybf,hcl]
def p_EqV:List AV→AHeap→(AV→Prop)→Prop
  | [.slice _ 2 l,.slice _ 2 k],_,K=>∃ ms ns:List Nat,(l=ms.map vv∧k=ns.map vv∧ms.length≤140737488355328∧ns.length≤140737488355328)∧K (.bool (decide (ms=ns)))
  | _,_,_=>False
set_option maxHeartbeats 2000000 in
theorem ok_EqV:EntOk Tryz.prog 251 (Ent.pure p_EqV):=by
  refine EntOk.pure fun args H K h=>?_
  unfold p_EqV at h
  split at h
  rotate_left
  · exact h.elim
  rename_i m1 l m2 k
  obtain ⟨ms,ns,⟨rfl,rfl,hl1,hl2⟩,hK⟩:=h
  refine ⟨_,hK,?_⟩
  clear hK
  by_cases hlen:ms.length=ns.length
  · have d0:(((ms.length:Nat):Int) != ((ns.length:Nat):Int))=false:=by simp [hlen]
    generalize hR:decide (ms=ns)=R
    refine ACalls.of_aw (Ω:=[]) (T:=assoc []) mixed TblOk.nil Tryz.func251 (by kernel_rfl) (by rfl) (rs:=[.tmp 4]) (by rfl) (by kernel_rfl) (by simp only [Tryz.ntmps251,yaz,yba];decide) (Nat.le_refl _) fun hcl hlt=>?_
    change aw _ _ _ (KI Tryz.prog [] (aEnd Tryz.prog [.tmp 4] H.nx _ _ (assoc [])) []) _ _
    have hm1:AV.lt H.nx (.slice m1 2 (ms.map vv)):=hlt _ (by simp)
    have hm2:AV.lt H.nx (.slice m2 2 (ns.map vv)):=hlt _ (by simp)
    clear hlt
    simp only [go_sem,ybb,d0]
    refine loop_introW (A:=Nat) (fun k=>[(0,.slice m1 2 (ms.map vv)),(1,.slice m2 2 (ns.map vv)),(12,.int .i64 (ms.length:Int)),(13,.int .i64 (k:Int))]) (fun _=>H) (fun k=>k≤ms.length∧decide (ms.drop k=ns.drop k)=R) (fun k=>ms.length - k) 0 ⟨by omega,hR⟩ ?_ fun k hk=>?_
    · refine ⟨Nat.le_refl _,AHeap.Le.refl _,hcl,?_,?_⟩
      · simp [ltF,zmn,hm1,hm2]
      · simp [subW,wk2,wk1,wkM,Fr.get]
    clear hR
    obtain ⟨hk1,hR⟩:=hk
    simp only [go_sem]
    refine cond_split (fun hc=>?_) (fun hc=>?_)
    · have hk':k<ms.length:=by simp at hc;omega
      have hk3:k<ns.length:=by omega
      obtain ⟨x,hx⟩:∃ x,x=ms[k]:=⟨_,rfl⟩
      have hd:ms.drop k=x::ms.drop (k+1):=by rw [hx];exact List.drop_eq_getElem_cons hk'
      have hg:=getD_map (f:=vv) (l:=ms) (k:=k) (x:=x) (by rw [List.getElem?_eq_getElem hk',hx])
      have e5:IntKind.i64.wrap ((k:Int)+1)=((k+1:Nat):Int):=by rw [wrap_i64]<;>omega
      obtain ⟨y,hy⟩:∃ y,y=ns[k]:=⟨_,rfl⟩
      have hd2:ns.drop k=y::ns.drop (k+1):=by rw [hy];exact List.drop_eq_getElem_cons hk3
      have hg2:=getD_map (f:=vv) (l:=ns) (k:=k) (x:=y) (by rw [List.getElem?_eq_getElem hk3,hy])
      rw [hd,hd2] at hR
      by_cases hxy:x=y
      · have dxy:decide (x=y)=true:=decide_eq_true hxy
        have hR':decide (ms.drop (k+1)=ns.drop (k+1))=R:=by
          rw [← hR,decide_eq_decide,hxy];simp
        simp only [go_sem,Int.toNat_natCast,ybb,hg,hg2,vv,vc,teq_valV,eqg_valV,val_eq,val_eq',dxy,Bool.bne_true,Bool.not_true,e5]
        refine ⟨⟨by omega,by omega⟩,⟨by omega,by omega⟩,k+1,⟨by omega,hR'⟩,by omega,Nat.le_refl _,AHeap.Le.refl _,hcl,?_,?_⟩
        · simp [ltF,zmn,hm1,hm2]
        · simp [subW,wk2,wk1,wkM,Fr.get]
      · have dxy:decide (x=y)=false:=decide_eq_false hxy
        have hR':R=false:=by
          rw [← hR];refine decide_eq_false fun h=>hxy ?_
          exact (List.cons.inj h).1
        subst hR'
        simp only [go_sem,Int.toNat_natCast,ybb,hg,hg2,vv,vc,teq_valV,eqg_valV,val_eq,val_eq',dxy,Bool.bne_true,Bool.not_false]
        refine ⟨⟨by omega,by omega⟩,⟨by omega,by omega⟩,?_⟩
        simp (disch:=first | assumption | omega | (simp;done) | (simp;omega) | (simp only [bt,and_true];first | done | omega | (simp;done))) [↓zlw,beq,ybc,ybd,ybe,endOk,wk,wk2,wk1,wkM,wkL,wkLL,ybf,hcl]
    · have hk':k=ms.length:=by simp at hc;omega
      rw [ybf (by omega),ybf (by omega)] at hR
      have hR':R=true:=by rw [← hR];rfl
      subst hR'
      simp only [go_sem]
      simp (disch:=first | assumption | omega | (simp;done) | (simp;omega) | (simp only [bt,and_true];first | done | omega | (simp;done))) [↓zlw,beq,ybc,ybd,ybe,endOk,wk,wk2,wk1,wkM,wkL,wkLL,ybf,hcl]
  · have d0:(((ms.length:Nat):Int) != ((ns.length:Nat):Int))=true:=by simp;omega
    have hR:decide (ms=ns)=false:=decide_eq_false fun h=>hlen (by rw [h])
    rw [hR]
    refine ACalls.of_aw (Ω:=[]) (T:=assoc []) mixed TblOk.nil Tryz.func251 (by kernel_rfl) (by rfl) (rs:=[.tmp 4]) (by rfl) (by kernel_rfl) (by simp only [Tryz.ntmps251,yaz,yba];decide) (Nat.le_refl _) fun hcl hlt=>?_
    change aw _ _ _ (KI Tryz.prog [] (aEnd Tryz.prog [.tmp 4] H.nx _ _ (assoc [])) []) _ _
    clear hlt
    simp only [go_sem,ybb,d0]
    simp (disch:=first | assumption | omega | (simp;done) | (simp;omega) | (simp only [bt,and_true];first | done | omega | (simp;done))) [↓zlw,beq,ybc,ybd,ybe,endOk,wk,wk2,wk1,wkM,wkL,wkLL,ybf,hcl]
def p_eSameKey:List AV→AHeap→(AV→Prop)→Prop
  | [.agg l,.agg k],_,K=>∃ e f:SEntry,(l=entryC e∧k=entryC f∧COk e∧COk f)∧K (.bool (sameK e f))
  | _,_,_=>False
set_option maxHeartbeats 2000000 in
theorem ok_eSameKey:EntOk Tryz.prog 280 (Ent.pure p_eSameKey):=by
  refine EntOk.pure fun args H K h=>?_
  unfold p_eSameKey at h
  split at h
  rotate_left
  · exact h.elim
  rename_i l k
  obtain ⟨e,f,⟨rfl,rfl,he,hf⟩,hK⟩:=h
  refine ⟨_,hK,?_⟩
  clear hK
  unfold sameK
  by_cases ht:e.table=f.table
  · have dt:(e.table==f.table)=true:=by simp [ht]
    rw [decide_eq_true ht,Bool.true_and]
    by_cases hm:e.ms=f.ms
    · have dm:decide (e.ms=f.ms)=true:=decide_eq_true hm
      rw [dm,Bool.true_and]
      have dp:(e.prio==f.prio)=decide (e.prio=f.prio):=by rw [Bool.eq_iff_iff];simp
      refine ACalls.of_aw (Ω:=[(338,Ent.pure p_EqM)]) (T:=assoc []) mixed (TblOk.cons ok_EqM TblOk.nil) Tryz.func280 (by kernel_rfl) (by rfl) (rs:=[.tmp 4]) (by rfl) (by kernel_rfl) (by simp only [Tryz.ntmps280,yaz,yba];decide) (Nat.le_refl _) fun hcl hlt=>?_
      change aw _ _ _ (KI Tryz.prog [(338,Ent.pure p_EqM)] (aEnd Tryz.prog [.tmp 4] H.nx _ _ (assoc [])) []) _ _
      clear hlt
      simp only [go_sem,entryC,p_EqM,dt]
      refine ⟨e.ms,f.ms,⟨rfl,rfl,he.ok.ml,hf.ok.ml⟩,?_⟩
      rw [dm]
      try simp only [blkE,blkP,bhq,Nat.reduceMod,Nat.reduceDiv,stepH,stepM,toMs1,toMs,toMs0,strK,pubK,pubF,pubV,yaq,yar,yao,yap,go_sem,dp]
      try simp (disch:=first | assumption | omega | (simp;done) | (simp;omega) | (simp only [bt,and_true];first | done | omega | (simp;done))) [↓zlw,beq,ybc,ybd,ybe,endOk,wk,wk2,wk1,wkM,wkL,wkLL,ybf,hcl]
      first | done | repeat (first | exact AHeap.Le.refl _ | refine AHeap.Le.push ?_ _)
    · have dm:decide (e.ms=f.ms)=false:=decide_eq_false hm
      rw [dm,Bool.false_and]
      refine ACalls.of_aw (Ω:=[(338,Ent.pure p_EqM)]) (T:=assoc []) mixed (TblOk.cons ok_EqM TblOk.nil) Tryz.func280 (by kernel_rfl) (by rfl) (rs:=[.tmp 4]) (by rfl) (by kernel_rfl) (by simp only [Tryz.ntmps280,yaz,yba];decide) (Nat.le_refl _) fun hcl hlt=>?_
      change aw _ _ _ (KI Tryz.prog [(338,Ent.pure p_EqM)] (aEnd Tryz.prog [.tmp 4] H.nx _ _ (assoc [])) []) _ _
      clear hlt
      simp only [go_sem,entryC,p_EqM,dt]
      refine ⟨e.ms,f.ms,⟨rfl,rfl,he.ok.ml,hf.ok.ml⟩,?_⟩
      rw [dm]
      try simp only [blkE,blkP,bhq,Nat.reduceMod,Nat.reduceDiv,stepH,stepM,toMs1,toMs,toMs0,strK,pubK,pubF,pubV,yaq,yar,yao,yap,go_sem]
      try simp (disch:=first | assumption | omega | (simp;done) | (simp;omega) | (simp only [bt,and_true];first | done | omega | (simp;done))) [↓zlw,beq,ybc,ybd,ybe,endOk,wk,wk2,wk1,wkM,wkL,wkLL,ybf,hcl]
      first | done | repeat (first | exact AHeap.Le.refl _ | refine AHeap.Le.push ?_ _)
  · have dt:(e.table==f.table)=false:=by simp [ht]
    rw [decide_eq_false ht,Bool.false_and]
    refine ACalls.of_aw (Ω:=[(338,Ent.pure p_EqM)]) (T:=assoc []) mixed (TblOk.cons ok_EqM TblOk.nil) Tryz.func280 (by kernel_rfl) (by rfl) (rs:=[.tmp 4]) (by rfl) (by kernel_rfl) (by simp only [Tryz.ntmps280,yaz,yba];decide) (Nat.le_refl _) fun hcl hlt=>?_
    change aw _ _ _ (KI Tryz.prog [(338,Ent.pure p_EqM)] (aEnd Tryz.prog [.tmp 4] H.nx _ _ (assoc [])) []) _ _
    clear hlt
    simp only [go_sem,entryC,p_EqM,dt]
    try simp (disch:=first | assumption | omega | (simp;done) | (simp;omega) | (simp only [bt,and_true];first | done | omega | (simp;done))) [↓zlw,beq,ybc,ybd,ybe,endOk,wk,wk2,wk1,wkM,wkL,wkLL,ybf,hcl]
    first | done | repeat (first | exact AHeap.Le.refl _ | refine AHeap.Le.push ?_ _)
def p_eSame:List AV→AHeap→(AV→Prop)→Prop
  | [.agg l,.agg k],_,K=>∃ e f:SEntry,(l=entryC e∧k=entryC f∧COk e∧COk f)∧K (.bool (sameK e f&&(decide (e.act=f.act)&&decide (e.args=f.args))))
  | _,_,_=>False
set_option maxHeartbeats 2000000 in
theorem ok_eSame:EntOk Tryz.prog 150 (Ent.pure p_eSame):=by
  refine EntOk.pure fun args H K h=>?_
  unfold p_eSame at h
  split at h
  rotate_left
  · exact h.elim
  rename_i l k
  obtain ⟨e,f,⟨rfl,rfl,he,hf⟩,hK⟩:=h
  refine ⟨_,hK,?_⟩
  clear hK
  by_cases hk:sameK e f=true
  · rw [hk,Bool.true_and]
    by_cases ha:e.act=f.act
    · have da:(e.act==f.act)=true:=by simp [ha]
      rw [decide_eq_true ha,Bool.true_and]
      refine ACalls.of_aw (Ω:=[(280,Ent.pure p_eSameKey),(251,Ent.pure p_EqV)]) (T:=assoc []) mixed (TblOk.cons ok_eSameKey (TblOk.cons ok_EqV TblOk.nil)) Tryz.func150 (by kernel_rfl) (by rfl) (rs:=[.tmp 4]) (by rfl) (by kernel_rfl) (by simp only [Tryz.ntmps150,yaz,yba];decide) (Nat.le_refl _) fun hcl hlt=>?_
      change aw _ _ _ (KI Tryz.prog [(280,Ent.pure p_eSameKey),(251,Ent.pure p_EqV)] (aEnd Tryz.prog [.tmp 4] H.nx _ _ (assoc [])) []) _ _
      clear hlt
      simp only [go_sem,entryC,p_eSameKey,p_EqV]
      refine ⟨e,f,⟨rfl,rfl,he,hf⟩,?_⟩
      rw [hk]
      simp only [blkE,blkP,bhq,Nat.reduceMod,Nat.reduceDiv,stepH,stepM,toMs1,toMs,toMs0,strK,pubK,pubF,pubV,yaq,yar,yao,yap,go_sem,da]
      refine ⟨e.args,f.args,⟨rfl,rfl,he.ok.al,hf.ok.al⟩,?_⟩
      try simp only [blkE,blkP,bhq,Nat.reduceMod,Nat.reduceDiv,stepH,stepM,toMs1,toMs,toMs0,strK,pubK,pubF,pubV,yaq,yar,yao,yap,go_sem]
      try simp (disch:=first | assumption | omega | (simp;done) | (simp;omega) | (simp only [bt,and_true];first | done | omega | (simp;done))) [↓zlw,beq,ybc,ybd,ybe,endOk,wk,wk2,wk1,wkM,wkL,wkLL,ybf,hcl]
      first | done | repeat (first | exact AHeap.Le.refl _ | refine AHeap.Le.push ?_ _)
    · have da:(e.act==f.act)=false:=by simp [ha]
      rw [decide_eq_false ha,Bool.false_and]
      refine ACalls.of_aw (Ω:=[(280,Ent.pure p_eSameKey),(251,Ent.pure p_EqV)]) (T:=assoc []) mixed (TblOk.cons ok_eSameKey (TblOk.cons ok_EqV TblOk.nil)) Tryz.func150 (by kernel_rfl) (by rfl) (rs:=[.tmp 4]) (by rfl) (by kernel_rfl) (by simp only [Tryz.ntmps150,yaz,yba];decide) (Nat.le_refl _) fun hcl hlt=>?_
      change aw _ _ _ (KI Tryz.prog [(280,Ent.pure p_eSameKey),(251,Ent.pure p_EqV)] (aEnd Tryz.prog [.tmp 4] H.nx _ _ (assoc [])) []) _ _
      clear hlt
      simp only [go_sem,entryC,p_eSameKey,p_EqV]
      refine ⟨e,f,⟨rfl,rfl,he,hf⟩,?_⟩
      rw [hk]
      simp only [blkE,blkP,bhq,Nat.reduceMod,Nat.reduceDiv,stepH,stepM,toMs1,toMs,toMs0,strK,pubK,pubF,pubV,yaq,yar,yao,yap,go_sem,da]
      try simp (disch:=first | assumption | omega | (simp;done) | (simp;omega) | (simp only [bt,and_true];first | done | omega | (simp;done))) [↓zlw,beq,ybc,ybd,ybe,endOk,wk,wk2,wk1,wkM,wkL,wkLL,ybf,hcl]
      first | done | repeat (first | exact AHeap.Le.refl _ | refine AHeap.Le.push ?_ _)
  · have hk':sameK e f=false:=by simpa using hk
    rw [hk',Bool.false_and]
    refine ACalls.of_aw (Ω:=[(280,Ent.pure p_eSameKey),(251,Ent.pure p_EqV)]) (T:=assoc []) mixed (TblOk.cons ok_eSameKey (TblOk.cons ok_EqV TblOk.nil)) Tryz.func150 (by kernel_rfl) (by rfl) (rs:=[.tmp 4]) (by rfl) (by kernel_rfl) (by simp only [Tryz.ntmps150,yaz,yba];decide) (Nat.le_refl _) fun hcl hlt=>?_
    change aw _ _ _ (KI Tryz.prog [(280,Ent.pure p_eSameKey),(251,Ent.pure p_EqV)] (aEnd Tryz.prog [.tmp 4] H.nx _ _ (assoc [])) []) _ _
    clear hlt
    simp only [go_sem,entryC,p_eSameKey,p_EqV]
    refine ⟨e,f,⟨rfl,rfl,he,hf⟩,?_⟩
    rw [hk']
    try simp only [blkE,blkP,bhq,Nat.reduceMod,Nat.reduceDiv,stepH,stepM,toMs1,toMs,toMs0,strK,pubK,pubF,pubV,yaq,yar,yao,yap,go_sem]
    try simp (disch:=first | assumption | omega | (simp;done) | (simp;omega) | (simp only [bt,and_true];first | done | omega | (simp;done))) [↓zlw,beq,ybc,ybd,ybe,endOk,wk,wk2,wk1,wkM,wkL,wkLL,ybf,hcl]
    first | done | repeat (first | exact AHeap.Le.refl _ | refine AHeap.Le.push ?_ _)
theorem same_cmp {e f:SEntry}:(sameK e f&&(decide (e.act=f.act)&&decide (e.args=f.args)))=(cmpE e f==0):=by
  rw [Bool.eq_iff_iff,beq_iff_eq,cmpE_eq]
  obtain ⟨a,b,c,d,e⟩:=e
  obtain ⟨a',b',c',d',e'⟩:=f
  simp only [sameK,Bool.and_eq_true,decide_eq_true_eq,SEntry.mk.injEq]
  constructor
  · rintro ⟨⟨h1,h2,h3⟩,h4,h5⟩;exact ⟨h1,h2,h3,h4,h5⟩
  · rintro ⟨h1,h2,h3,h4,h5⟩;exact ⟨⟨h1,h2,h3⟩,h4,h5⟩
end Go.AL


open Go Go.AL Go.Proofs
namespace Go.AL
set_option linter.all false
set_option maxRecDepth 10000

/-- a comparison that orders -/
structure TPre {α:Type} (f:α→α→Int):Prop where
  anti:∀ x y,f y x = - f x y
  trans:∀ x y z,f x y≤0→f y z≤0→f x z≤0
theorem TPre.zero {α:Type}:TPre fun _ _:α=>0:=⟨fun _ _=>rfl,fun _ _ _ _ _=>by decide⟩
end Go.AL

