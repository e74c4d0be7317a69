/- Contracts and plain laws, a part of the proof; no condition of its own. -/
import Derived.Test.YtepgdamgklfnmaaGreatM20g
import Derived.Test.YtepgdamgklfnmaaGreatM19r
open List renaming length_cons → yaz, length_nil → yba, take_succ_cons → yaq, take_zero → yar, drop_succ_cons → yao, drop_zero → yap, length_map → ybb, map_cons → yae, map_nil → yaf, cons_append → yal, nil_append → yak, append_nil → yaj, take_of_length_le → ybc, drop_append → ybd, take_append → ybe, drop_eq_nil_of_le → ybf
open Option renaming map_some → yag
open Go Go.AL Go.Proofs
namespace Go.AL
set_option linter.all false
set_option maxRecDepth 10000

def xUsF:Nat→RS→List (Int × SEntry) × RS
  | 0,s=>([],s)
  | n+1,s=>(((xkF s 3).1,(readE (xkF s 3).2).1)::(xUsF n (readE (xkF s 3).2).2).1,(xUsF n (readE (xkF s 3).2).2).2)
def xd3F (s:RS):SReq × RS :=
  let q0:=uintR s 2;let q1:=valueR q0.2;let q2:=countR q1.2 32;let q3:=xUsF q2.1.toNat q2.2
  ({ zReq with role:=q0.1,el:=q1.1,ups:=q3.1 },q3.2)
def xdF (k:Int) (s:RS):SReq × RS :=
  if k=1 then rd1F s else if k=3 then xd3F s else if k=4 then rd4F s else if k=5 then rd5F s else if k=6 then rd6F s else (zReq,s)
def xqF (s:RS):SReq × Int :=
  if finishR (xdF (xkF s 6).1 (xkF s 6).2).2≠0 then (zReq,finishR (xdF (xkF s 6).1 (xkF s 6).2).2) else ({ (xdF (xkF s 6).1 (xkF s 6).2).1 with kind:=(xkF s 6).1 },0)
def xdecF (b:List UInt8):SReq × Int:=if 8000<b.length then (zReq,3) else xqF (.any,b,0)
def p_xDecR:List AV→AHeap→(AV→Prop)→Prop
  | [.slice _ 1 l],_,K=>∃ b:List UInt8,(l=bys b∧b.length≤100000)∧K (.tup [reqAV (xdecF b).1,.int .i64 (xdecF b).2])
  | _,_,_=>False
theorem any_of {m:Mark} (h:mkOk .any m):m=.any:=by
  rcases h with h | h
  · exact h
  · exact h
theorem xkF_m {m:Mark} {l:List UInt8} {e hi n:Int} {m':Mark} {l':List UInt8} {e':Int} (h:xkF (m,l,e) hi=(n,m',l',e')):mkOk m m':=by
  have a1:=uintR_m m l e 1
  unfold xkF at h
  simp only [Prod.mk.injEq] at h
  obtain ⟨_,h⟩:=h
  have:m'=(uintR (m,l,e) 1).2.1:=by
    split at h
    · exact (congrArg (fun t:RS=>t.1) h).symm
    · exact (congrArg (fun t:RS=>t.1) h).symm
  rw [this];exact a1
theorem uintR_m' {m m':Mark} {l l':List UInt8} {e w v e':Int} (h:uintR (m,l,e) w=(v,m',l',e')):mkOk m m':=by
  have a1:=uintR_m m l e w
  rw [h] at a1;exact a1
theorem valueR_m' {m m':Mark} {l l':List UInt8} {e:Int} {v:Nat} {e':Int} (h:valueR (m,l,e)=(v,m',l',e')):mkOk m m':=by
  have a1:=valueR_m m l e
  rw [h] at a1;exact a1
theorem countR_m' {m m':Mark} {l l':List UInt8} {e w v e':Int} (h:countR (m,l,e) w=(v,m',l',e')):mkOk m m':=by
  have a1:=countR_m m l e w
  rw [h] at a1;exact a1
theorem xkF_go (s:RS) (hi:Int):(xkF s hi).2.2.1.length≤s.2.1.length:=by
  obtain ⟨m,l,e⟩:=s
  have a1:=uintR_l m l e 1
  unfold xkF
  dsimp only
  split<;>exact a1
set_option maxHeartbeats 8000000 in
theorem ok_xDecR:EntOk Tryz.prog 24 (Ent.pure p_xDecR):=by
  refine EntOk.pure fun args H K h=>?_
  unfold p_xDecR at h
  split at h
  rotate_left
  · exact h.elim
  rename_i m l
  obtain ⟨b,⟨rfl,hb⟩,hK⟩:=h
  refine ⟨_,hK,?_⟩
  clear hK
  obtain ⟨D,hD⟩:∃ D,xdecF b=D:=⟨_,rfl⟩
  rw [hD]
  unfold xdecF at hD
  have ht:=fun (e:Int) (r:SReq)=>(show ∀ n,AV.lt n (.tup [reqAV r,.int .i64 e]) from fun n=>by rw [zna];exact ⟨lt_req _,by rw [zmn];trivial,trivial⟩)
  by_cases h1:8000<b.length
  · have d1:decide ((b.length:Int) > 8000)=true:=decide_eq_true (by omega)
    rw [if_pos h1] at hD
    subst hD
    refine ACalls.of_aw (Ω:=[(63,Ent.effect e_xKind),(64,Ent.effect e_xUint),(65,Ent.effect e_xValue),(66,Ent.effect e_xCount),(67,Ent.effect e_rRead10),(68,Ent.effect e_xBytes),(69,Ent.pure p_xFinish)]) (T:=assoc [(3,[[10]]),(12,[[1]])]) mixed (TblOk.cons ok_xKind (TblOk.cons ok_xUint (TblOk.cons ok_xValue (TblOk.cons ok_xCount (TblOk.cons ok_rRead10 (TblOk.cons ok_xBytes (TblOk.cons ok_xFinish TblOk.nil))))))) Tryz.func24 (by kernel_rfl) (by rfl) (rs:=[.cell 2 28,.tmp 3]) (by rfl) (by kernel_rfl) (by simp only [Tryz.ntmps24,yaz,yba];decide) (Nat.le_refl _) fun hcl hlt=>?_
    change aw _ _ _ (KI Tryz.prog [(63,Ent.effect e_xKind),(64,Ent.effect e_xUint),(65,Ent.effect e_xValue),(66,Ent.effect e_xCount),(67,Ent.effect e_rRead10),(68,Ent.effect e_xBytes),(69,Ent.pure p_xFinish)] (aEnd Tryz.prog [.cell 2 28,.tmp 3] H.nx _ _ (assoc [(3,[[10]]),(12,[[1]])])) []) _ _
    clear hlt
    simp only [go_sem,byq,d1]
    refine ⟨?_,by repeat (first | exact AHeap.Le.refl _ | refine AHeap.Le.push ?_ _),hcl,ht _ _ _⟩
    simp [wk,wkLL,wk2,wkL,wk1,wkM,reqAV,reqC,zReq,zkt]
  have d1:decide ((b.length:Int) > 8000)=false:=decide_eq_false (by omega)
  rw [if_neg h1] at hD
  unfold xqF at hD
  have hl0:=xkF_go (.any,b,0) 6
  generalize hQ0:xkF (.any,b,0) 6=Q0 at *
  obtain ⟨n,m0,l0,e0⟩:=Q0
  dsimp only at hD hl0
  have b0:l0.length≤100000:=by omega
  have hF:∀ s:RS,s.2.1.length≤100000→True:=fun _ _=>trivial
  by_cases hk1:n=1
  · subst hk1
    rw [show xdF 1 (m0,l0,e0)=rd1F (m0,l0,e0) from rfl] at hD
    obtain ⟨Q,hQ⟩:∃ Q,rd1F (m0,l0,e0)=Q:=⟨_,rfl⟩
    rw [hQ] at hD
    unfold rd1F at hQ
    dsimp only at hQ
    have hl1:=uintR_l m0 l0 e0 2
    generalize h1':uintR (m0,l0,e0) 2=q1 at *
    obtain ⟨v1,m1,l1,e1⟩:=q1
    dsimp only at hQ hl1
    have b1:l1.length≤100000:=by omega
    have hl2:=valueR_l m1 l1 e1
    generalize h2':valueR (m1,l1,e1)=q2 at *
    obtain ⟨v2,m2,l2,e2⟩:=q2
    dsimp only at hQ hl2
    have b2:l2.length≤100000:=by omega
    subst hQ
    dsimp only at hD
    obtain ⟨F,hF'⟩:∃ F,finishR (m2,l2,e2)=F:=⟨_,rfl⟩
    rw [hF'] at hD
    refine ACalls.of_aw (Ω:=[(63,Ent.effect e_xKind),(64,Ent.effect e_xUint),(65,Ent.effect e_xValue),(66,Ent.effect e_xCount),(67,Ent.effect e_rRead10),(68,Ent.effect e_xBytes),(69,Ent.pure p_xFinish)]) (T:=assoc [(3,[[10]]),(12,[[1]])]) mixed (TblOk.cons ok_xKind (TblOk.cons ok_xUint (TblOk.cons ok_xValue (TblOk.cons ok_xCount (TblOk.cons ok_rRead10 (TblOk.cons ok_xBytes (TblOk.cons ok_xFinish TblOk.nil))))))) Tryz.func24 (by kernel_rfl) (by rfl) (rs:=[.cell 2 28,.tmp 3]) (by rfl) (by kernel_rfl) (by simp only [Tryz.ntmps24,yaz,yba];decide) (Nat.le_refl _) fun hcl hlt=>?_
    change aw _ _ _ (KI Tryz.prog [(63,Ent.effect e_xKind),(64,Ent.effect e_xUint),(65,Ent.effect e_xValue),(66,Ent.effect e_xCount),(67,Ent.effect e_rRead10),(68,Ent.effect e_xBytes),(69,Ent.pure p_xFinish)] (aEnd Tryz.prog [.cell 2 28,.tmp 3] H.nx _ _ (assoc [(3,[[10]]),(12,[[1]])])) []) _ _
    clear hlt
    simp only [blkE,blkP,bhq,Nat.reduceMod,Nat.reduceDiv,stepH,stepM,toMs1,toMs,toMs0,strK,pubK,pubF,pubV,yaq,yar,yao,yap,go_sem,byq,d1]
    refine ⟨⟨by omega,by omega⟩,?_⟩
    refine weak_slot 15 (.slice .any 1 (bys b)) ?_ ?_
    · simp [Fr.get,wkD_slice,wkDL_cons,wkDL_nil,wkDR_cons,wkDR_nil,wkM,wkDR_same]
    simp only [blkE,blkP,bhq,Nat.reduceMod,Nat.reduceDiv,stepH,stepM,toMs1,toMs,toMs0,strK,pubK,pubF,pubV,yaq,yar,yao,yap,go_sem,byq,d1,e_xKind,hQ0,onR,onRo_some,hb,b0,cellR,Int.reduceBEq,p_xFinish,vv,vc,h1',b1,h2',b2,e_xUint,e_xValue,hF']
    refine cond_split (fun hf=>?_) (fun hf=>?_)
    · have hf':F≠0:=by simpa using hf
      rw [if_pos hf'] at hD
      subst hD
      simp only [go_sem,byq]
      refine ⟨?_,by repeat (first | exact AHeap.Le.refl _ | refine AHeap.Le.push ?_ _),hcl,ht _ _ _⟩
      simp [wk,wkLL,wk2,wkL,wk1,wkM,reqAV,reqC,zReq,zkt]
    · have hf':F=0:=by simpa using hf
      rw [if_neg (by rw [hf'];decide)] at hD
      subst hD
      simp only [go_sem,byq]
      refine ⟨?_,by repeat (first | exact AHeap.Le.refl _ | refine AHeap.Le.push ?_ _),hcl,ht _ _ _⟩
      simp [wk,wkLL,wk2,wkL,wk1,wkM,reqAV,reqC,zReq,zkt]
  by_cases hk4:n=4
  · subst hk4
    rw [show xdF 4 (m0,l0,e0)=rd4F (m0,l0,e0) from rfl] at hD
    obtain ⟨Q,hQ⟩:∃ Q,rd4F (m0,l0,e0)=Q:=⟨_,rfl⟩
    rw [hQ] at hD
    unfold rd4F at hQ
    dsimp only at hQ
    have hl1:=uintR_l m0 l0 e0 2
    generalize h1':uintR (m0,l0,e0) 2=q1 at *
    obtain ⟨v1,m1,l1,e1⟩:=q1
    dsimp only at hQ hl1
    have b1:l1.length≤100000:=by omega
    have hl2:=uintR_l m1 l1 e1 2
    generalize h2':uintR (m1,l1,e1) 2=q2 at *
    obtain ⟨v2,m2,l2,e2⟩:=q2
    dsimp only at hQ hl2
    have b2:l2.length≤100000:=by omega
    subst hQ
    dsimp only at hD
    obtain ⟨F,hF'⟩:∃ F,finishR (m2,l2,e2)=F:=⟨_,rfl⟩
    rw [hF'] at hD
    refine ACalls.of_aw (Ω:=[(63,Ent.effect e_xKind),(64,Ent.effect e_xUint),(65,Ent.effect e_xValue),(66,Ent.effect e_xCount),(67,Ent.effect e_rRead10),(68,Ent.effect e_xBytes),(69,Ent.pure p_xFinish)]) (T:=assoc [(3,[[10]]),(12,[[1]])]) mixed (TblOk.cons ok_xKind (TblOk.cons ok_xUint (TblOk.cons ok_xValue (TblOk.cons ok_xCount (TblOk.cons ok_rRead10 (TblOk.cons ok_xBytes (TblOk.cons ok_xFinish TblOk.nil))))))) Tryz.func24 (by kernel_rfl) (by rfl) (rs:=[.cell 2 28,.tmp 3]) (by rfl) (by kernel_rfl) (by simp only [Tryz.ntmps24,yaz,yba];decide) (Nat.le_refl _) fun hcl hlt=>?_
    change aw _ _ _ (KI Tryz.prog [(63,Ent.effect e_xKind),(64,Ent.effect e_xUint),(65,Ent.effect e_xValue),(66,Ent.effect e_xCount),(67,Ent.effect e_rRead10),(68,Ent.effect e_xBytes),(69,Ent.pure p_xFinish)] (aEnd Tryz.prog [.cell 2 28,.tmp 3] H.nx _ _ (assoc [(3,[[10]]),(12,[[1]])])) []) _ _
    clear hlt
    simp only [blkE,blkP,bhq,Nat.reduceMod,Nat.reduceDiv,stepH,stepM,toMs1,toMs,toMs0,strK,pubK,pubF,pubV,yaq,yar,yao,yap,go_sem,byq,d1]
    refine ⟨⟨by omega,by omega⟩,?_⟩
    refine weak_slot 15 (.slice .any 1 (bys b)) ?_ ?_
    · simp [Fr.get,wkD_slice,wkDL_cons,wkDL_nil,wkDR_cons,wkDR_nil,wkM,wkDR_same]
    simp only [blkE,blkP,bhq,Nat.reduceMod,Nat.reduceDiv,stepH,stepM,toMs1,toMs,toMs0,strK,pubK,pubF,pubV,yaq,yar,yao,yap,go_sem,byq,d1,e_xKind,hQ0,onR,onRo_some,hb,b0,cellR,Int.reduceBEq,p_xFinish,vv,vc,h1',b1,h2',b2,e_xUint,hF']
    refine cond_split (fun hf=>?_) (fun hf=>?_)
    · have hf':F≠0:=by simpa using hf
      rw [if_pos hf'] at hD
      subst hD
      simp only [go_sem,byq]
      refine ⟨?_,by repeat (first | exact AHeap.Le.refl _ | refine AHeap.Le.push ?_ _),hcl,ht _ _ _⟩
      simp [wk,wkLL,wk2,wkL,wk1,wkM,reqAV,reqC,zReq,zkt]
    · have hf':F=0:=by simpa using hf
      rw [if_neg (by rw [hf'];decide)] at hD
      subst hD
      simp only [go_sem,byq]
      refine ⟨?_,by repeat (first | exact AHeap.Le.refl _ | refine AHeap.Le.push ?_ _),hcl,ht _ _ _⟩
      simp [wk,wkLL,wk2,wkL,wk1,wkM,reqAV,reqC,zReq,zkt]
  by_cases hk5:n=5
  · subst hk5
    rw [show xdF 5 (m0,l0,e0)=rd5F (m0,l0,e0) from rfl] at hD
    obtain ⟨Q,hQ⟩:∃ Q,rd5F (m0,l0,e0)=Q:=⟨_,rfl⟩
    rw [hQ] at hD
    unfold rd5F at hQ
    dsimp only at hQ
    have hl1:=uintR_l m0 l0 e0 2
    generalize h1':uintR (m0,l0,e0) 2=q1 at *
    obtain ⟨v1,m1,l1,e1⟩:=q1
    dsimp only at hQ hl1
    have b1:l1.length≤100000:=by omega
    have hl2:=uintR_l m1 l1 e1 4
    generalize h2':uintR (m1,l1,e1) 4=q2 at *
    obtain ⟨v2,m2,l2,e2⟩:=q2
    dsimp only at hQ hl2
    have b2:l2.length≤100000:=by omega
    have hl3:=uintR_l m2 l2 e2 2
    generalize h3':uintR (m2,l2,e2) 2=q3 at *
    obtain ⟨v3,m3,l3,e3⟩:=q3
    dsimp only at hQ hl3
    have b3:l3.length≤100000:=by omega
    subst hQ
    dsimp only at hD
    obtain ⟨F,hF'⟩:∃ F,finishR (m3,l3,e3)=F:=⟨_,rfl⟩
    rw [hF'] at hD
    refine ACalls.of_aw (Ω:=[(63,Ent.effect e_xKind),(64,Ent.effect e_xUint),(65,Ent.effect e_xValue),(66,Ent.effect e_xCount),(67,Ent.effect e_rRead10),(68,Ent.effect e_xBytes),(69,Ent.pure p_xFinish)]) (T:=assoc [(3,[[10]]),(12,[[1]])]) mixed (TblOk.cons ok_xKind (TblOk.cons ok_xUint (TblOk.cons ok_xValue (TblOk.cons ok_xCount (TblOk.cons ok_rRead10 (TblOk.cons ok_xBytes (TblOk.cons ok_xFinish TblOk.nil))))))) Tryz.func24 (by kernel_rfl) (by rfl) (rs:=[.cell 2 28,.tmp 3]) (by rfl) (by kernel_rfl) (by simp only [Tryz.ntmps24,yaz,yba];decide) (Nat.le_refl _) fun hcl hlt=>?_
    change aw _ _ _ (KI Tryz.prog [(63,Ent.effect e_xKind),(64,Ent.effect e_xUint),(65,Ent.effect e_xValue),(66,Ent.effect e_xCount),(67,Ent.effect e_rRead10),(68,Ent.effect e_xBytes),(69,Ent.pure p_xFinish)] (aEnd Tryz.prog [.cell 2 28,.tmp 3] H.nx _ _ (assoc [(3,[[10]]),(12,[[1]])])) []) _ _
    clear hlt
    simp only [blkE,blkP,bhq,Nat.reduceMod,Nat.reduceDiv,stepH,stepM,toMs1,toMs,toMs0,strK,pubK,pubF,pubV,yaq,yar,yao,yap,go_sem,byq,d1]
    refine ⟨⟨by omega,by omega⟩,?_⟩
    refine weak_slot 15 (.slice .any 1 (bys b)) ?_ ?_
    · simp [Fr.get,wkD_slice,wkDL_cons,wkDL_nil,wkDR_cons,wkDR_nil,wkM,wkDR_same]
    simp only [blkE,blkP,bhq,Nat.reduceMod,Nat.reduceDiv,stepH,stepM,toMs1,toMs,toMs0,strK,pubK,pubF,pubV,yaq,yar,yao,yap,go_sem,byq,d1,e_xKind,hQ0,onR,onRo_some,hb,b0,cellR,Int.reduceBEq,p_xFinish,vv,vc,h1',b1,h2',b2,h3',b3,e_xUint,hF']
    refine cond_split (fun hf=>?_) (fun hf=>?_)
    · have hf':F≠0:=by simpa using hf
      rw [if_pos hf'] at hD
      subst hD
      simp only [go_sem,byq]
      refine ⟨?_,by repeat (first | exact AHeap.Le.refl _ | refine AHeap.Le.push ?_ _),hcl,ht _ _ _⟩
      simp [wk,wkLL,wk2,wkL,wk1,wkM,reqAV,reqC,zReq,zkt]
    · have hf':F=0:=by simpa using hf
      rw [if_neg (by rw [hf'];decide)] at hD
      subst hD
      simp only [go_sem,byq]
      refine ⟨?_,by repeat (first | exact AHeap.Le.refl _ | refine AHeap.Le.push ?_ _),hcl,ht _ _ _⟩
      simp [wk,wkLL,wk2,wkL,wk1,wkM,reqAV,reqC,zReq,zkt]
  by_cases hk6:n=6
  · subst hk6
    rw [show xdF 6 (m0,l0,e0)=rd6F (m0,l0,e0) from rfl] at hD
    obtain ⟨Q,hQ⟩:∃ Q,rd6F (m0,l0,e0)=Q:=⟨_,rfl⟩
    rw [hQ] at hD
    unfold rd6F at hQ
    dsimp only at hQ
    have hl1:=uintR_l m0 l0 e0 2
    generalize h1':uintR (m0,l0,e0) 2=q1 at *
    obtain ⟨v1,m1,l1,e1⟩:=q1
    dsimp only at hQ hl1
    have b1:l1.length≤100000:=by omega
    have hl2:=bytesR_l m1 l1 e1 320
    generalize h2':bytesR (m1,l1,e1) 320=q2 at *
    obtain ⟨v2,m2,l2,e2⟩:=q2
    dsimp only at hQ hl2
    have b2:l2.length≤100000:=by omega
    subst hQ
    dsimp only at hD
    obtain ⟨F,hF'⟩:∃ F,finishR (m2,l2,e2)=F:=⟨_,rfl⟩
    rw [hF'] at hD
    refine ACalls.of_aw (Ω:=[(63,Ent.effect e_xKind),(64,Ent.effect e_xUint),(65,Ent.effect e_xValue),(66,Ent.effect e_xCount),(67,Ent.effect e_rRead10),(68,Ent.effect e_xBytes),(69,Ent.pure p_xFinish)]) (T:=assoc [(3,[[10]]),(12,[[1]])]) mixed (TblOk.cons ok_xKind (TblOk.cons ok_xUint (TblOk.cons ok_xValue (TblOk.cons ok_xCount (TblOk.cons ok_rRead10 (TblOk.cons ok_xBytes (TblOk.cons ok_xFinish TblOk.nil))))))) Tryz.func24 (by kernel_rfl) (by rfl) (rs:=[.cell 2 28,.tmp 3]) (by rfl) (by kernel_rfl) (by simp only [Tryz.ntmps24,yaz,yba];decide) (Nat.le_refl _) fun hcl hlt=>?_
    change aw _ _ _ (KI Tryz.prog [(63,Ent.effect e_xKind),(64,Ent.effect e_xUint),(65,Ent.effect e_xValue),(66,Ent.effect e_xCount),(67,Ent.effect e_rRead10),(68,Ent.effect e_xBytes),(69,Ent.pure p_xFinish)] (aEnd Tryz.prog [.cell 2 28,.tmp 3] H.nx _ _ (assoc [(3,[[10]]),(12,[[1]])])) []) _ _
    clear hlt
    simp only [blkE,blkP,bhq,Nat.reduceMod,Nat.reduceDiv,stepH,stepM,toMs1,toMs,toMs0,strK,pubK,pubF,pubV,yaq,yar,yao,yap,go_sem,byq,d1]
    refine ⟨⟨by omega,by omega⟩,?_⟩
    refine weak_slot 15 (.slice .any 1 (bys b)) ?_ ?_
    · simp [Fr.get,wkD_slice,wkDL_cons,wkDL_nil,wkDR_cons,wkDR_nil,wkM,wkDR_same]
    simp only [blkE,blkP,bhq,Nat.reduceMod,Nat.reduceDiv,stepH,stepM,toMs1,toMs,toMs0,strK,pubK,pubF,pubV,yaq,yar,yao,yap,go_sem,byq,d1,e_xKind,hQ0,onR,onRo_some,hb,b0,cellR,Int.reduceBEq,p_xFinish,vv,vc,h1',b1,h2',b2,e_xBytes,e_xUint,hF']
    refine cond_split (fun hf=>?_) (fun hf=>?_)
    · have hf':F≠0:=by simpa using hf
      rw [if_pos hf'] at hD
      subst hD
      simp only [go_sem,byq]
      refine ⟨?_,by repeat (first | exact AHeap.Le.refl _ | refine AHeap.Le.push ?_ _),hcl,ht _ _ _⟩
      simp [wk,wkLL,wk2,wkL,wk1,wkM,reqAV,reqC,zReq,zkt]
    · have hf':F=0:=by simpa using hf
      rw [if_neg (by rw [hf'];decide)] at hD
      subst hD
      simp only [go_sem,byq]
      refine ⟨?_,by repeat (first | exact AHeap.Le.refl _ | refine AHeap.Le.push ?_ _),hcl,ht _ _ _⟩
      simp [wk,wkLL,wk2,wkL,wk1,wkM,reqAV,reqC,zReq,zkt]
  by_cases hk3:n=3
  · subst hk3
    rw [show xdF 3 (m0,l0,e0)=xd3F (m0,l0,e0) from rfl] at hD
    obtain ⟨Q,hQ⟩:∃ Q,xd3F (m0,l0,e0)=Q:=⟨_,rfl⟩
    rw [hQ] at hD
    unfold xd3F at hQ
    dsimp only at hQ
    have hl1:=uintR_l m0 l0 e0 2
    generalize h1':uintR (m0,l0,e0) 2=q1 at *
    obtain ⟨v1,m1,l1,e1⟩:=q1
    dsimp only at hQ hl1
    have b1:l1.length≤100000:=by omega
    have hl2:=valueR_l m1 l1 e1
    generalize h2':valueR (m1,l1,e1)=q2 at *
    obtain ⟨v2,m2,l2,e2⟩:=q2
    dsimp only at hQ hl2
    have b2:l2.length≤100000:=by omega
    have hl3:=countR_l m2 l2 e2 32
    have hc3:=countR_b (m2,l2,e2) 32 (by decide)
    generalize h3':countR (m2,l2,e2) 32=q3 at *
    obtain ⟨v3,m3,l3,e3⟩:=q3
    dsimp only at hQ hl3 hc3
    have b3:l3.length≤100000:=by omega
    obtain ⟨kc,rfl⟩:∃ kc:Nat,v3=(kc:Int):=⟨v3.toNat,by omega⟩
    rw [Int.toNat_natCast] at hQ
    obtain ⟨U,hU⟩:∃ U,xUsF kc (m3,l3,e3)=U:=⟨_,rfl⟩
    rw [hU] at hQ
    subst hQ
    dsimp only at hD
    obtain ⟨F,hF'⟩:∃ F,finishR U.2=F:=⟨_,rfl⟩
    rw [hF'] at hD
    refine ACalls.of_aw (Ω:=[(63,Ent.effect e_xKind),(64,Ent.effect e_xUint),(65,Ent.effect e_xValue),(66,Ent.effect e_xCount),(67,Ent.effect e_rRead10),(68,Ent.effect e_xBytes),(69,Ent.pure p_xFinish)]) (T:=assoc [(3,[[10]]),(12,[[1]])]) mixed (TblOk.cons ok_xKind (TblOk.cons ok_xUint (TblOk.cons ok_xValue (TblOk.cons ok_xCount (TblOk.cons ok_rRead10 (TblOk.cons ok_xBytes (TblOk.cons ok_xFinish TblOk.nil))))))) Tryz.func24 (by kernel_rfl) (by rfl) (rs:=[.cell 2 28,.tmp 3]) (by rfl) (by kernel_rfl) (by simp only [Tryz.ntmps24,yaz,yba];decide) (Nat.le_refl _) fun hcl hlt=>?_
    change aw _ _ _ (KI Tryz.prog [(63,Ent.effect e_xKind),(64,Ent.effect e_xUint),(65,Ent.effect e_xValue),(66,Ent.effect e_xCount),(67,Ent.effect e_rRead10),(68,Ent.effect e_xBytes),(69,Ent.pure p_xFinish)] (aEnd Tryz.prog [.cell 2 28,.tmp 3] H.nx _ _ (assoc [(3,[[10]]),(12,[[1]])])) []) _ _
    clear hlt
    simp only [blkE,blkP,bhq,Nat.reduceMod,Nat.reduceDiv,stepH,stepM,toMs1,toMs,toMs0,strK,pubK,pubF,pubV,yaq,yar,yao,yap,go_sem,byq,d1]
    refine ⟨⟨by omega,by omega⟩,?_⟩
    refine weak_slot 15 (.slice .any 1 (bys b)) ?_ ?_
    · simp [Fr.get,wkD_slice,wkDL_cons,wkDL_nil,wkDR_cons,wkDR_nil,wkM,wkDR_same]
    simp only [blkE,blkP,bhq,Nat.reduceMod,Nat.reduceDiv,stepH,stepM,toMs1,toMs,toMs0,strK,pubK,pubF,pubV,yaq,yar,yao,yap,go_sem,byq,d1,e_xKind,hQ0,onR,onRo_some,hb,b0,cellR,Int.reduceBEq,p_xFinish,vv,vc,h1',b1,h2',b2,h3',b3,e_xUint,e_xValue,e_xCount]
    refine weak_cell 5 4 6 (cs:=[.int .i64 3,.int .i64 v1,.int .u64 ((v2/2^64:Nat):Int),.int .u64 ((v2 % 2^64:Nat):Int),.slice .nil 1 [],.int .i64 0,.int .i64 0,.int .i64 0,.int .i64 0,.slice .nil 1 []]) rfl (by simp only [go_sem]) rfl ?_
    simp only [blkE,blkP,bhq,Nat.reduceMod,Nat.reduceDiv,stepH,stepM,toMs1,toMs,toMs0,strK,pubK,pubF,pubV,yaq,yar,yao,yap,go_sem,byq,d1,e_xKind,hQ0,onR,onRo_some,hb,b0,cellR,Int.reduceBEq,p_xFinish,vv,vc,h1',b1,h2',b2,h3',b3,e_xUint,e_xValue,e_xCount,List.set_cons_succ,List.set_cons_zero]
    have hm3:m3=.any:=any_of (mkOk_trans (mkOk_trans (mkOk_trans (xkF_m hQ0) (uintR_m' h1')) (valueR_m' h2')) (countR_m' h3'))
    subst hm3
    have hcR:∀ (l':List UInt8) (e':Int) (us:List (Int × SEntry)),(((((H.push (.cells [.int .i64 0,.int .i64 0,.int .u64 0,.int .u64 0,.slice .nil 1 [],.int .i64 0,.int .i64 0,.int .i64 0,.int .i64 0,.slice .nil 1 []])).push (.buf 1 b.length)).push (.cells [.slice .any 1 (bys l'),.int .i64 e'])).push (.cells [.int .i64 3,.int .i64 v1,.int .u64 ((v2/2^64:Nat):Int),.int .u64 ((v2 % 2^64:Nat):Int),.slice (.own (H.nx+1+1+1+1)) 6 (us.map updAV),.int .i64 0,.int .i64 0,.int .i64 0,.int .i64 0,.slice .nil 1 []])).push (.buf 6 us.length)).Closed:=fun l' e' us=>by
      have h0:(((((H.push (.cells [.int .i64 0,.int .i64 0,.int .u64 0,.int .u64 0,.slice .nil 1 [],.int .i64 0,.int .i64 0,.int .i64 0,.int .i64 0,.slice .nil 1 []])).push (.buf 1 b.length)).push (.cells [.slice .any 1 (bys l'),.int .i64 e'])).push (.cells [])).push (.buf 6 us.length)).Closed:=by
        repeat' (first | exact hcl | refine closed_buf ?_ | refine closed_cells ?_ ?_)
        · simp [lt_sliceL,znc,znd,zmn]
        · simp [lt_sliceL,znc,znd,zmn,zlx]
        · trivial
      have h1:=closed_set (i:=H.nx+1+1+1) (cs:=[.int .i64 3,.int .i64 v1,.int .u64 ((v2/2^64:Nat):Int),.int .u64 ((v2 % 2^64:Nat):Int),.slice (.own (H.nx+1+1+1+1)) 6 (us.map updAV),.int .i64 0,.int .i64 0,.int .i64 0,.int .i64 0,.slice .nil 1 []]) h0 (by
        simp [znc,znd,zmn,zkm,zkn,lt_sliceL]
        exact ltL_iff.2 fun j hj=>by rw [List.getElem_map];exact lt_upd _)
      simp only [go_sem] at h1
      exact h1
    refine loop_introW (A:=Nat × (List UInt8 × Int) × List (Int × SEntry)) (fun x=>[(2,.ptr H.nx 0),(4,.ptr (H.nx+1+1) 0),(5,.ptr (H.nx+1+1+1) 0),(6,.int .i64 (x.1:Int))]) (fun x=>(((((H.push (.cells [.int .i64 0,.int .i64 0,.int .u64 0,.int .u64 0,.slice .nil 1 [],.int .i64 0,.int .i64 0,.int .i64 0,.int .i64 0,.slice .nil 1 []])).push (.buf 1 b.length)).push (.cells [.slice .any 1 (bys x.2.1.1),.int .i64 x.2.1.2])).push (.cells [.int .i64 3,.int .i64 v1,.int .u64 ((v2/2^64:Nat):Int),.int .u64 ((v2 % 2^64:Nat):Int),.slice (.own (H.nx+1+1+1+1)) 6 (x.2.2.map updAV),.int .i64 0,.int .i64 0,.int .i64 0,.int .i64 0,.slice .nil 1 []])).push (.buf 6 x.2.2.length))) (fun x=>x.2.2.length+x.1≤32∧(x.2.2++(xUsF x.1 (.any,x.2.1.1,x.2.1.2)).1,(xUsF x.1 (.any,x.2.1.1,x.2.1.2)).2)=U∧x.2.1.1.length≤100000) (fun x=>x.1) (kc,(l3,e3),[]) ⟨by simp;omega,by rw [← hU];rfl,b3⟩ ?_ fun x hx=>?_
    · refine ⟨by simp only [zjy,zkd,zkm,zkn];omega,AHeap.Le.refl _,hcR _ _ _,?_,?_⟩
      · simp [ltF,zmn,zmv,zkm,zkn]
        try omega
      · simp [subW,wk2,wk1,wkM,Fr.get]
    obtain ⟨n,⟨lx,ex⟩,us⟩:=x
    obtain ⟨hx1,hx2,hx3⟩:=hx
    dsimp only at hx1 hx2 hx3 ⊢
    simp only [go_sem]
    refine cond_split (fun hc=>?_) (fun hc=>?_)
    · obtain ⟨n,rfl⟩:∃ m,n=m+1:=⟨n - 1,by simp at hc;omega⟩
      have e5:IntKind.i64.wrap (((n+1:Nat):Int) - 1)=((n:Nat):Int):=by rw [wrap_i64]<;>omega
      have hge:xUsF (n+1) (.any,lx,ex)=(((xkF (.any,lx,ex) 3).1,(readE (xkF (.any,lx,ex) 3).2).1)::(xUsF n (readE (xkF (.any,lx,ex) 3).2).2).1,(xUsF n (readE (xkF (.any,lx,ex) 3).2).2).2):=rfl
      rw [hge] at hx2
      have hl4:=xkF_go (.any,lx,ex) 3
      generalize h4':xkF (.any,lx,ex) 3=q4 at *
      obtain ⟨n4,m4,l4,e4⟩:=q4
      have hm4:m4=.any:=any_of (xkF_m h4')
      subst hm4
      dsimp only at hx2 hl4
      have hl5:=readE0_l (.any,l4,e4)
      have hm5:=readE0_m (.any,l4,e4)
      rw [← readE_2] at hl5 hm5
      generalize h5':readE (.any,l4,e4)=q5 at *
      obtain ⟨en,m5,l5,e5'⟩:=q5
      dsimp only at hx2 hl5 hm5
      have hm5':=any_of hm5
      subst hm5'
      have b4:l4.length≤100000:=by omega
      have b5:l5.length≤100000:=by omega
      simp only [blkE,blkP,bhq,Nat.reduceMod,Nat.reduceDiv,stepH,stepM,toMs1,toMs,toMs0,strK,pubK,pubF,pubV,yaq,yar,yao,yap,go_sem,byq,d1,e_xKind,hQ0,onR,onRo_some,hb,b0,cellR,Int.reduceBEq,p_xFinish,vv,vc,hx3,h4',b4,h5',b5,e_rRead10,e5,entryAV,entryC,ybb,List.set_cons_succ,List.set_cons_zero]
      refine ⟨⟨by omega,by omega,fun z hz=>by rw [List.mem_singleton] at hz;subst hz;rfl⟩,(n,(l5,e5'),us++[(n4,en)]),⟨by simp only [List.length_append,yaz,yba];omega,by rw [← hx2];simp [List.append_assoc],b5⟩,by dsimp only;omega,?_⟩
      refine ⟨by simp only [zkm,zkn];omega,?_,hcR _ _ _,?_,?_⟩
      · simp only [List.map_append,yae,yaf,updAV,updC,entryC,List.length_append,yaz,yba,yal,yak]
        repeat (first | exact AHeap.Le.refl _ | refine AHeap.Le.push ?_ _)
      · simp [ltF,zmn,zmv,zkm,zkn]
        try omega
      · simp [subW,wk2,wk1,wkM,Fr.get]
    · have hn0:n=0:=by simp at hc;omega
      subst hn0
      simp only [xUsF,yaj] at hx2
      subst hx2
      dsimp only at hF' hD
      simp only [blkE,blkP,bhq,Nat.reduceMod,Nat.reduceDiv,stepH,stepM,toMs1,toMs,toMs0,strK,pubK,pubF,pubV,yaq,yar,yao,yap,go_sem,byq,d1,e_xKind,hQ0,onR,onRo_some,hb,b0,cellR,Int.reduceBEq,p_xFinish,vv,vc,hx3,hF']
      refine cond_split (fun hf=>?_) (fun hf=>?_)
      · have hf':F≠0:=by simpa using hf
        rw [if_pos hf'] at hD
        subst hD
        simp only [go_sem,byq]
        refine ⟨?_,by repeat (first | exact AHeap.Le.refl _ | refine AHeap.Le.push ?_ _),hcl,ht _ _ _⟩
        simp [wk,wkLL,wk2,wkL,wk1,wkM,reqAV,reqC,zReq,zkt]
      · have hf':F=0:=by simpa using hf
        rw [if_neg (by rw [hf'];decide)] at hD
        subst hD
        simp only [go_sem,byq]
        refine ⟨?_,by repeat (first | exact AHeap.Le.refl _ | refine AHeap.Le.push ?_ _),hcl,ht _ _ _⟩
        simp [wk,wkLL,wk2,wkL,wk1,wkM,reqAV,reqC,zReq,zkt]
  have c1:(n==1)=false:=by simpa using hk1
  have c3:(n==3)=false:=by simpa using hk3
  have c4:(n==4)=false:=by simpa using hk4
  have c5:(n==5)=false:=by simpa using hk5
  have c6:(n==6)=false:=by simpa using hk6
  have hx:xdF n (m0,l0,e0)=(zReq,(m0,l0,e0)):=by unfold xdF;rw [if_neg hk1,if_neg hk3,if_neg hk4,if_neg hk5,if_neg hk6]
  rw [hx] at hD
  dsimp only at hD
  obtain ⟨F,hF'⟩:∃ F,finishR (m0,l0,e0)=F:=⟨_,rfl⟩
  rw [hF'] at hD
  refine ACalls.of_aw (Ω:=[(63,Ent.effect e_xKind),(64,Ent.effect e_xUint),(65,Ent.effect e_xValue),(66,Ent.effect e_xCount),(67,Ent.effect e_rRead10),(68,Ent.effect e_xBytes),(69,Ent.pure p_xFinish)]) (T:=assoc [(3,[[10]]),(12,[[1]])]) mixed (TblOk.cons ok_xKind (TblOk.cons ok_xUint (TblOk.cons ok_xValue (TblOk.cons ok_xCount (TblOk.cons ok_rRead10 (TblOk.cons ok_xBytes (TblOk.cons ok_xFinish TblOk.nil))))))) Tryz.func24 (by kernel_rfl) (by rfl) (rs:=[.cell 2 28,.tmp 3]) (by rfl) (by kernel_rfl) (by simp only [Tryz.ntmps24,yaz,yba];decide) (Nat.le_refl _) fun hcl hlt=>?_
  change aw _ _ _ (KI Tryz.prog [(63,Ent.effect e_xKind),(64,Ent.effect e_xUint),(65,Ent.effect e_xValue),(66,Ent.effect e_xCount),(67,Ent.effect e_rRead10),(68,Ent.effect e_xBytes),(69,Ent.pure p_xFinish)] (aEnd Tryz.prog [.cell 2 28,.tmp 3] H.nx _ _ (assoc [(3,[[10]]),(12,[[1]])])) []) _ _
  clear hlt
  simp only [blkE,blkP,bhq,Nat.reduceMod,Nat.reduceDiv,stepH,stepM,toMs1,toMs,toMs0,strK,pubK,pubF,pubV,yaq,yar,yao,yap,go_sem,byq,d1]
  refine ⟨⟨by omega,by omega⟩,?_⟩
  refine weak_slot 15 (.slice .any 1 (bys b)) ?_ ?_
  · simp [Fr.get,wkD_slice,wkDL_cons,wkDL_nil,wkDR_cons,wkDR_nil,wkM,wkDR_same]
  simp only [blkE,blkP,bhq,Nat.reduceMod,Nat.reduceDiv,stepH,stepM,toMs1,toMs,toMs0,strK,pubK,pubF,pubV,yaq,yar,yao,yap,go_sem,byq,d1,e_xKind,hQ0,onR,onRo_some,hb,b0,cellR,Int.reduceBEq,p_xFinish,vv,vc,c1,c3,c4,c5,c6,hF']
  refine cond_split (fun hf=>?_) (fun hf=>?_)
  · have hf':F≠0:=by simpa using hf
    rw [if_pos hf'] at hD
    subst hD
    simp only [go_sem,byq]
    refine ⟨?_,by repeat (first | exact AHeap.Le.refl _ | refine AHeap.Le.push ?_ _),hcl,ht _ _ _⟩
    simp [wk,wkLL,wk2,wkL,wk1,wkM,reqAV,reqC,zReq,zkt]
  · have hf':F=0:=by simpa using hf
    rw [if_neg (by rw [hf'];decide)] at hD
    subst hD
    simp only [go_sem,byq]
    refine ⟨?_,by repeat (first | exact AHeap.Le.refl _ | refine AHeap.Le.push ?_ _),hcl,ht _ _ _⟩
    simp [wk,wkLL,wk2,wkL,wk1,wkM,reqAV,reqC,zReq,zkt]
end Go.AL


open Go Go.AL Go.Proofs
namespace Go.AL
set_option linter.all false
set_option maxRecDepth 10000

theorem uintR_er {s:RS} {w:Int} (h:s.2.2≠0):uintR s w=(0,s):=by unfold uintR;rw [if_pos h]
theorem countR_er {s:RS} {n:Int} (h:s.2.2≠0):countR s n=(0,s):=by unfold countR;rw [if_pos h]
theorem readE_er {s:RS} (h:s.2.2≠0):(readE s).2=s:=by
  rw [readE_2]
  unfold readE0
  simp [uintR_er h,countR_er h,readMs,readVs]
theorem xkF_er {s:RS} {hi:Int} (h:s.2.2≠0):xkF s hi=(0,s):=by
  unfold xkF
  rw [uintR_er h]
  have:badKd (0,s) hi=false:=by simp [badKd,h]
  rw [this];rfl
theorem xUsF_er:∀ (n:Nat) {s:RS},s.2.2≠0→(xUsF n s).2=s
  | 0,s,h=>rfl
  | n+1,s,h=>by
    unfold xUsF
    rw [xkF_er h]
    dsimp only
    rw [readE_er h,xUsF_er n h]
theorem us_same:∀ (n:Nat) (s:RS),(∀ us t,readUs n s=(some us,t)→xUsF n s=(us,t))∧(∀ t,readUs n s=(none,t)→(xUsF n s).2.2.2=2)
  | 0,s=>by
    refine ⟨fun us t h=>?_,fun t h=>?_⟩
    · simp only [readUs,Prod.mk.injEq,Option.some.injEq] at h
      obtain ⟨rfl,rfl⟩:=h;rfl
    · simp [readUs] at h
  | n+1,s=>by
    have hu:readUs (n+1) s=if badKd (uintR s 1) 3 then (none,(uintR s 1).2) else match readUs n (readE (uintR s 1).2).2 with
      | (some us,t)=>(some (((uintR s 1).1,(readE (uintR s 1).2).1)::us),t)
      | (none,t)=>(none,t):=rfl
    have hx:xUsF (n+1) s=(((xkF s 3).1,(readE (xkF s 3).2).1)::(xUsF n (readE (xkF s 3).2).2).1,(xUsF n (readE (xkF s 3).2).2).2):=rfl
    rw [hu,hx]
    cases hb:badKd (uintR s 1) 3
    · have hk:xkF s 3=uintR s 1:=by unfold xkF;rw [hb];rfl
      rw [if_neg (by decide),hk]
      obtain ⟨i1,i2⟩:=us_same n (readE (uintR s 1).2).2
      generalize hq:readUs n (readE (uintR s 1).2).2=q at *
      obtain ⟨o,t⟩:=q
      cases o with
      | none =>
        refine ⟨fun us t' h=>?_,fun t' h=>?_⟩
        · simp at h
        · exact i2 t rfl
      | some us =>
        refine ⟨fun us' t' h=>?_,fun t' h=>?_⟩
        · simp only [Prod.mk.injEq,Option.some.injEq] at h
          obtain ⟨rfl,rfl⟩:=h
          rw [i1 us t rfl]
        · simp at h
    · have hk:(xkF s 3).2=((uintR s 1).2.1,(uintR s 1).2.2.1,2):=by unfold xkF;rw [hb];rfl
      rw [if_pos rfl,hk]
      refine ⟨fun us t' h=>?_,fun t' h=>?_⟩
      · simp at h
      · have he:(((uintR s 1).2.1,(uintR s 1).2.2.1,(2:Int)):RS).2.2≠0:=by show (2:Int)≠0;decide
        dsimp only
        rw [readE_er he,xUsF_er n he]
theorem rd3_same (s:RS):(∀ r t,rd3F s=(some r,t)→xd3F s=(r,t))∧(∀ t,rd3F s=(none,t)→(xd3F s).2.2.2=2):=by
  unfold rd3F xd3F
  dsimp only
  obtain ⟨i1,i2⟩:=us_same (countR (valueR (uintR s 2).2).2 32).1.toNat (countR (valueR (uintR s 2).2).2 32).2
  generalize readUs (countR (valueR (uintR s 2).2).2 32).1.toNat (countR (valueR (uintR s 2).2).2 32).2=q at *
  obtain ⟨o,t⟩:=q
  cases o with
  | none =>
    refine ⟨fun r t' h=>?_,fun t' h=>?_⟩
    · simp at h
    · exact i2 t rfl
  | some us =>
    refine ⟨fun r t' h=>?_,fun t' h=>?_⟩
    · simp only [yag,Prod.mk.injEq,Option.some.injEq] at h
      obtain ⟨rfl,rfl⟩:=h
      rw [i1 us t rfl]
    · simp at h
theorem finish_er {s:RS} (h:s.2.2≠0):finishR s=s.2.2:=by unfold finishR;rw [if_neg (fun x=>h x.1)]
theorem dec_same (b:List UInt8):decF b=xdecF b:=by
  unfold decF xdecF
  by_cases h8:8000<b.length
  · rw [if_pos h8,if_pos h8]
  rw [if_neg h8,if_neg h8]
  unfold xqF rqF
  obtain ⟨Q,hQ⟩:∃ Q,uintR (.any,b,0) 1=Q:=⟨_,rfl⟩
  have hx:xkF (.any,b,0) 6=(Q.1,if badKd Q 6 then (Q.2.1,Q.2.2.1,2) else Q.2):=by unfold xkF;rw [hQ]
  rw [hQ,hx]
  dsimp only
  cases hb:badKd Q 6
  case true =>
    rw [if_pos rfl,if_pos rfl]
    have hn:¬ Q.1=1∧¬ Q.1=3∧¬ Q.1=4∧¬ Q.1=5∧¬ Q.1=6:=by
      simp [badKd] at hb
      omega
    have hd:xdF Q.1 (Q.2.1,Q.2.2.1,2)=(zReq,(Q.2.1,Q.2.2.1,2)):=by
      unfold xdF;rw [if_neg hn.1,if_neg hn.2.1,if_neg hn.2.2.1,if_neg hn.2.2.2.1,if_neg hn.2.2.2.2]
    rw [hd]
    dsimp only
    rw [finish_er (by show (2:Int)≠0;decide)]
    simp
  simp only [Bool.false_eq_true,if_false]
  by_cases he:Q.2.2.2≠0
  · rw [if_pos he]
    have hn:Q.1=0:=by
      rw [← hQ]
      rw [← hQ] at he
      unfold uintR at he ⊢
      (repeat' split)<;>first | rfl | skip
      simp_all
    have hd:xdF Q.1 Q.2=(zReq,Q.2):=by rw [hn];rfl
    rw [hd]
    dsimp only
    rw [finish_er he,if_pos he,if_pos he]
  · rw [if_neg he]
    have he0:Q.2.2.2=0:=by simpa using he
    have hn:Q.1=1∨Q.1=2∨Q.1=3∨Q.1=4∨Q.1=5∨Q.1=6:=by
      simp [badKd,he0] at hb
      omega
    by_cases h3:Q.1=3
    · rw [h3]
      have e1:rdF 3 Q.2=rd3F Q.2:=rfl
      have e2:xdF 3 Q.2=xd3F Q.2:=rfl
      rw [e1,e2]
      obtain ⟨i1,i2⟩:=rd3_same Q.2
      generalize rd3F Q.2=q at *
      obtain ⟨o,t⟩:=q
      cases o with
      | none =>
        have:=i2 t rfl
        dsimp only
        rw [finish_er (by rw [this];decide),this]
        simp
      | some r =>
        rw [i1 r t rfl]
    · have hd:rdF Q.1 Q.2=(some (xdF Q.1 Q.2).1,(xdF Q.1 Q.2).2):=by
        rcases hn with h | h | h | h | h | h<;>first | (exact absurd h h3) | (rw [h];rfl)
      rw [hd]
end Go.AL


open Go Go.AL Go.Proofs
namespace Go.AL
set_option linter.all false
set_option maxRecDepth 10000

theorem enc_ok {r:SReq} (hv:1≤r.kind∧r.kind≤6) (hk:r.ups.all kOK=true) (hu:usedR r=r) (hn:numsR r=true) (hl:r.ups.length≤32) (hd:r.data.length≤320) (hw:(wireR r).length≤8000):encR r=(wireR r,0):=by
  have hp:permR r=true:=by
    rw [permR_split,Bool.and_eq_true]
    refine ⟨?_,(eqR_iff _ _).2 hu⟩
    unfold okR valid6
    rw [Bool.and_eq_true]
    exact ⟨decide_eq_true hv,hk⟩
  have hb:=nums_eq hp hl
  rw [hn] at hb
  unfold encR
  rw [if_neg (by rw [hp];decide),if_neg (by omega),if_neg (by rw [hb];decide),if_neg (by omega)]
theorem wire_ne {r:SReq} (hv:1≤r.kind∧r.kind≤6):wireR r≠[]:=by
  obtain ⟨x,_,hx⟩:=lit1 (kind_cases hv.1 hv.2)
  unfold wireR
  rw [hx];simp
theorem rg_role:∀ k,rg (gRole k) 2=true
  | 0 | 1 | 2 | 3 | 4=>rfl
  | n+5=>rfl
theorem rg_cv {b:List UInt8} {u n:Nat}:rg ((cv b u n:Nat):Int) 2=true:=by
  have:=cv_256 (b:=b) (v:=u) (n:=n)
  exact decide_eq_true ⟨by omega,by show ((cv b u n:Nat):Int)<65536;omega⟩
theorem rg_cv4 {b:List UInt8} {u n:Nat}:rg ((cv b u n:Nat):Int) 4=true:=by
  have:=cv_256 (b:=b) (v:=u) (n:=n)
  exact decide_eq_true ⟨by omega,by show ((cv b u n:Nat):Int)<4294967296;omega⟩
theorem wok_rgE {e:SEntry} (h:WOk e):rgE e=true:=by
  have r2:∀ n:Int,0≤n→n≤65535→rg n 2=true:=fun n h1 h2=>decide_eq_true ⟨h1,by show n<65536;omega⟩
  unfold rgE
  rw [r2 _ h.t0 h.t1,r2 _ h.p0 h.p1,r2 _ h.a0 h.a1,decide_eq_true h.ml,decide_eq_true h.al]
  simp only [Bool.true_and]
  rw [List.all_eq_true]
  intro m hm
  have w:=h.mo m hm
  unfold rgM
  rw [show rg m.pfx 1=true from decide_eq_true ⟨w.p0,by show m.pfx<256;have:=w.p1;omega⟩]
  cases hp:m.present
  · rw [w.no hp];rfl
  · rfl
theorem gUpd_wok {S:Sch} (hG:GenS S) (hS:SSm S) {b:List UInt8} {v:Nat}:kOK (gUpd S b v).1=true∧rgE (gUpd S b v).1.2=true:=by
  have h:=gEntry_wok hG hS (b:=b) (v:=cp v 2) (n:=(cv b (cp v 1) 4:Nat))
  have h4:=cv_lt (b:=b) (v:=cp v 0) (n:=4) (by decide)
  have hk:∀ k,k<4→1≤gKind k∧gKind k≤3:=fun k hk=>by
    match k,hk with
    | 0,_ | 1,_ | 2,_ | 3,_=>exact ⟨by decide,by decide⟩
  unfold gUpd
  dsimp only
  refine ⟨decide_eq_true (hk _ h4),?_⟩
  split
  · exact wok_rgE ⟨h.t0,h.t1,h.p0,h.p1,Int.le_refl _,by show (0:Int)≤65535;decide,h.ml,Nat.zero_le _,h.mo,fun x hx=>by cases hx⟩
  · exact wok_rgE h
theorem gUps_wok {S:Sch} (hG:GenS S) (hS:SSm S) {b:List UInt8}:∀ (n v:Nat),∀ u∈(gUps S b n v).1,kOK u=true∧rgE u.2=true
  | 0,v=>fun u hu=>by cases hu
  | n+1,v=>fun u hu=>by
    simp only [gUps,List.mem_cons] at hu
    rcases hu with rfl | hu
    · exact gUpd_wok hG hS
    · exact gUps_wok hG hS n _ u hu
theorem gReq_enc {S:Sch} (hG:GenS S) (hS:SSm S) {b:List UInt8} {v:Nat}:∃ W,encR (gReq S b v).1=(W,0)∧W≠[]∧W.length≤8000:=by
  have hr:=gReq_ok hG (b:=b) (v:=v)
  have hlb:=fun k=>bodyR_len k hr.1
  suffices h:(1≤(gReq S b v).1.kind∧(gReq S b v).1.kind≤6)∧(gReq S b v).1.ups.all kOK=true∧usedR (gReq S b v).1=(gReq S b v).1∧numsR (gReq S b v).1=true∧(gReq S b v).1.ups.length≤5∧(gReq S b v).1.data.length≤13 by
    obtain ⟨h1,h2,h3,h4,h5,h6⟩:=h
    have hw:(wireR (gReq S b v).1).length≤8000:=by
      have ln:=fun n w=>wUint_len n w
      have lv:=wValue_len hr.1.el
      have lb:(wBytes (gReq S b v).1.data).length≤100:=by
        unfold wBytes
        rw [List.length_append,be_len,List.length_take]
        omega
      have lu:=bodyUs_len _ hr.1.uo
      have a0:=ln (gReq S b v).1.kind 1
      have a1:=ln (gReq S b v).1.role 2
      have a2:=ln (gReq S b v).1.ups.length 2
      have a3:=ln (gReq S b v).1.table 2
      have a4:=ln (gReq S b v).1.frm 4
      have a5:=ln (gReq S b v).1.count 2
      have a6:=ln (gReq S b v).1.port 2
      unfold wireR bodyR
      (repeat' split)<;>simp only [List.length_append,yba]<;>omega
    exact ⟨_,enc_ok h1 h2 h3 h4 (by omega) (by omega) hw,wire_ne h1,hw⟩
  obtain ⟨g1,g2⟩:=gUps_ok hG (b:=b) (cv b (cp v 3) 5) (cp v 4)
  have g3:=gUps_wok hG hS (b:=b) (cv b (cp v 3) 5) (cp v 4)
  have h5:=cv_lt (b:=b) (v:=cp v 3) (n:=5) (by decide)
  have hf:=gFrame_len (b:=b) (v:=min (cp v 3) b.length)
  have r0:rg 0 2=true:=rg0 2
  have r04:rg 0 4=true:=rg0 4
  unfold gReq
  dsimp only
  repeat' split
  · exact ⟨⟨by show (1:Int)≤1;decide,by show (1:Int)≤6;decide⟩,rfl,rfl,by simp [numsR,rg_role,r0,r04,zReq],Nat.zero_le _,Nat.zero_le _⟩
  · refine ⟨⟨by show (1:Int)≤3;decide,by show (3:Int)≤6;decide⟩,List.all_eq_true.2 fun u hu=>(g3 u hu).1,rfl,?_,by dsimp only;omega,Nat.zero_le _⟩
    simp only [numsR,zReq,List.all_cons,List.all_nil,rg_role,r0,r04,Bool.and_true,Bool.true_and]
    exact List.all_eq_true.2 fun u hu=>(g3 u hu).2
  · exact ⟨⟨by show (1:Int)≤4;decide,by show (4:Int)≤6;decide⟩,rfl,rfl,by simp [numsR,rg_role,r0,r04,zReq,rg_cv],Nat.zero_le _,Nat.zero_le _⟩
  · exact ⟨⟨by show (1:Int)≤5;decide,by show (5:Int)≤6;decide⟩,rfl,rfl,by simp [numsR,rg_role,r0,r04,zReq,rg_cv,rg_cv4],Nat.zero_le _,Nat.zero_le _⟩
  · exact ⟨⟨by show (1:Int)≤6;decide,by show (6:Int)≤6;decide⟩,rfl,rfl,by simp [numsR,rg_role,r0,r04,zReq,rg_cv],Nat.zero_le _,by dsimp only;omega⟩
  · exact ⟨⟨by show (1:Int)≤2;decide,by show (2:Int)≤6;decide⟩,rfl,rfl,by simp [numsR,rg_role,r0,r04,zReq],Nat.zero_le _,Nat.zero_le _⟩
end Go.AL


open Go Go.AL Go.Proofs
namespace Go.AL
set_option linter.all false
set_option maxRecDepth 10000
theorem ti_bytess:ti Tryz.prog 62=some ⟨.slice 26,1,24,.slice .nil 1 []⟩:=by kernel_rfl
attribute [go_sem] ti_bytess
theorem rows_junkM {l:List UInt8} {n k:Nat} (h:n=l.length):rowsOf 1 n (bys l++List.replicate k AV.junk)=bys l:=by
  subst h
  induction l with
  | nil=>rfl
  | cons a l ih =>
    show rowsOf 1 (l.length+1) (ofByte a::(bys l++List.replicate k AV.junk))=ofByte a::bys l
    simp only [rowsOf,if_true,yao,yap,ih]
    rfl
theorem ltL_junkedM {n k:Nat} {l:List UInt8}:ltL n (bys l++List.replicate k AV.junk):=ltL_iff.2 fun j hj=>by
  rw [List.getElem_append]
  split
  · exact ltL_iff.1 (of_eq_true zlx) j _
  · rw [List.getElem_replicate,AV.lt]<;>simp
theorem rc_z (k:Int):RC { zReq with kind:=k }:=⟨Nat.two_pow_pos 128,Nat.zero_le _,fun u hu=>by cases hu⟩
theorem readUs_ok:∀ (n:Nat) (s:RS) (us:List (Int × SEntry)) (t:RS),readUs n s=(some us,t)→us.length=n∧∀ u∈us,COk u.2
  | 0,s,us,t,h=>by
    simp only [readUs,Prod.mk.injEq,Option.some.injEq] at h
    obtain ⟨rfl,rfl⟩:=h
    exact ⟨rfl,fun u hu=>by cases hu⟩
  | n+1,s,us,t,h=>by
    have hu:readUs (n+1) s=if badKd (uintR s 1) 3 then (none,(uintR s 1).2) else match readUs n (readE (uintR s 1).2).2 with
      | (some us,t)=>(some (((uintR s 1).1,(readE (uintR s 1).2).1)::us),t)
      | (none,t)=>(none,t):=rfl
    rw [hu] at h
    split at h
    · simp at h
    · have hi:=readUs_ok n (readE (uintR s 1).2).2
      generalize readUs n (readE (uintR s 1).2).2=q at *
      obtain ⟨o,t'⟩:=q
      cases o with
      | none=>simp at h
      | some vs =>
        simp only [Prod.mk.injEq,Option.some.injEq] at h
        obtain ⟨rfl,rfl⟩:=h
        obtain ⟨i1,i2⟩:=hi vs t' rfl
        refine ⟨by rw [yaz,i1],fun u hu=>?_⟩
        rw [List.mem_cons] at hu
        rcases hu with rfl | hu
        · exact readE_ok _
        · exact i2 u hu
theorem rdF_rc {k:Int} {s:RS} {r:SReq} {t:RS} (h:rdF k s=(some r,t)) (n:Int):RC { r with kind:=n }:=by
  have z:∀ u:Int × SEntry,u∈([]:List (Int × SEntry))→COk u.2:=fun u hu=>by cases hu
  have p0:=Nat.two_pow_pos 128
  unfold rdF at h
  (repeat' split at h)
  · cases h
    exact ⟨valueR_lt' _,Nat.zero_le _,z⟩
  · cases h
    exact ⟨p0,Nat.zero_le _,z⟩
  · unfold rd3F at h
    dsimp only at h
    have hc:=countR_b (valueR (uintR s 2).2).2 32 (by decide)
    have hi:=readUs_ok (countR (valueR (uintR s 2).2).2 32).1.toNat (countR (valueR (uintR s 2).2).2 32).2
    generalize readUs (countR (valueR (uintR s 2).2).2 32).1.toNat (countR (valueR (uintR s 2).2).2 32).2=q at *
    obtain ⟨o,t'⟩:=q
    cases o with
    | none=>simp at h
    | some us =>
      simp only [yag,Prod.mk.injEq,Option.some.injEq] at h
      obtain ⟨rfl,rfl⟩:=h
      obtain ⟨i1,i2⟩:=hi us t' rfl
      exact ⟨valueR_lt' _,by dsimp only;omega,i2⟩
  · cases h
    exact ⟨p0,Nat.zero_le _,z⟩
  · cases h
    exact ⟨p0,Nat.zero_le _,z⟩
  · cases h
    exact ⟨p0,Nat.zero_le _,z⟩
theorem decF_rc (b:List UInt8):RC (decF b).1:=by
  have hz:RC zReq:=rc_z 0
  unfold decF
  split
  · exact hz
  split
  · exact hz
  dsimp only
  unfold rqF
  split
  · exact hz
  split
  · exact hz
  generalize hq:rdF (uintR (.any,b,0) 1).1 (uintR (.any,b,0) 1).2=q
  obtain ⟨o,t⟩:=q
  cases o with
  | none=>exact hz
  | some r=>exact rdF_rc hq _
def p_MessageReads:List AV→AHeap→(AV→Prop)→Prop
  | [.slice _ 1 l0,.slice _ 1 l1,.slice _ 1 l2,.int .i64 at',.int .u8 by'],_,K=>(isB l0∧isB l1∧isB l2 ∧ -9223372036854775808≤at'∧at'≤9223372036854775807∧0≤by'∧by'<256)∧K (.bool true)
  | _,_,_=>False
set_option maxHeartbeats 8000000 in
theorem ok_MessageReads:EntOk Tryz.prog 5 (Ent.pure p_MessageReads):=by
  refine EntOk.pure fun args H K h=>?_
  unfold p_MessageReads at h
  split at h
  rotate_left
  · exact h.elim
  rename_i m0 l0 m1 l1 m2 l2 at' by'
  obtain ⟨⟨c0,c1,c2,ha1,ha2,hb1,hb2⟩,hK⟩:=h
  refine ⟨_,hK,?_⟩
  clear hK
  obtain ⟨x0,rfl⟩:=isB_out c0
  obtain ⟨x1,rfl⟩:=isB_out c1
  obtain ⟨x2,rfl⟩:=isB_out c2
  clear c0 c1 c2
  obtain ⟨B0,hB0⟩:∃ B0,x0.take (min (x0.length:Int) 120).toNat=B0:=⟨_,rfl⟩
  obtain ⟨B1,hB1⟩:∃ B1,x1.take (min (x1.length:Int) 120).toNat=B1:=⟨_,rfl⟩
  obtain ⟨B2,hB2⟩:∃ B2,x2.take (min (x2.length:Int) 80).toNat=B2:=⟨_,rfl⟩
  have hL0:B0.length≤120:=by rw [← hB0,List.length_take];omega
  have hL1:B1.length≤1000000:=by rw [← hB1,List.length_take];omega
  have hL2:B2.length≤1000000:=by rw [← hB2,List.length_take];omega
  have hG:=genS_ok B1 0
  have hSS:=ssm_ok B1 0
  generalize hS:gSchema B1 0=SS at *
  obtain ⟨S,w1⟩:=SS
  dsimp only at hG hSS
  have hz1:zod B1 0=codV B1 (cp 0 0):=zod_codV
  have hz2:zod B2 0=codV B2 (cp 0 0):=zod_codV
  have hR:=gReq_ok hG (b:=B2) (v:=0)
  obtain ⟨W,hW,hWn,hWl⟩:=gReq_enc hG hSS (b:=B2) (v:=0)
  generalize hRR:gReq S B2 0=RR at *
  obtain ⟨R,w2⟩:=RR
  dsimp only at hR hW
  refine ACalls.of_aw (Ω:=[(11,Ent.effect e_ZNew),(12,Ent.effect e_CSchema),(13,Ent.effect e_CRequest),(16,Ent.pure p_xEncR),(22,Ent.pure p_ZMod),(23,Ent.pure p_mDecG),(24,Ent.pure p_xDecR),(19,Ent.pure p_rSameR),(10,Ent.pure p_begun19)]) (T:=assoc [(3,[[],[],[],[1,2],[1,2,3]]),(8,[[],[],[],[],[],[],[],[],[7],[],[],[7],[],[],[],[],[7],[],[],[],[7,18],[7,8,18]]),(808,[[100014]]),(6,[[0,3]]),(7,[[30]]),(1208,[[300014]])]) mixed (TblOk.cons ok_ZNew (TblOk.cons ok_CSchema (TblOk.cons ok_CRequest (TblOk.cons ok_xEncR (TblOk.cons ok_ZMod (TblOk.cons ok_mDecG (TblOk.cons ok_xDecR (TblOk.cons ok_rSameR (TblOk.cons ok_begun19 TblOk.nil))))))))) Tryz.func5 (by kernel_rfl) (by rfl) (rs:=[.tmp 10]) (by rfl) (by kernel_rfl) (by simp only [Tryz.ntmps5,yaz,yba];decide) (Nat.le_refl _) fun hcl hlt=>?_
  change aw _ _ _ (KI Tryz.prog [(11,Ent.effect e_ZNew),(12,Ent.effect e_CSchema),(13,Ent.effect e_CRequest),(16,Ent.pure p_xEncR),(22,Ent.pure p_ZMod),(23,Ent.pure p_mDecG),(24,Ent.pure p_xDecR),(19,Ent.pure p_rSameR),(10,Ent.pure p_begun19)] (aEnd Tryz.prog [.tmp 10] H.nx _ _ (assoc [(3,[[],[],[],[1,2],[1,2,3]]),(8,[[],[],[],[],[],[],[],[],[7],[],[],[7],[],[],[],[],[7],[],[],[],[7,18],[7,8,18]]),(808,[[100014]]),(6,[[0,3]]),(7,[[30]]),(1208,[[300014]])])) []) _ _
  clear hlt
  simp only [blkE,blkP,bhq,Nat.reduceMod,Nat.reduceDiv,stepH,stepM,toMs1,toMs,toMs0,strK,pubK,pubF,pubV,yaq,yar,yao,yap,go_sem,byq,e_ZNew,hB0,yap]
  refine ⟨by omega,x1,⟨rfl,by omega⟩,?_⟩
  rw [hB1,hz1]
  have hSch:e_CSchema=eG fun b v=>(schAV (gSchema b v).1,(gSchema b v).2):=rfl
  simp only [blkE,blkP,bhq,Nat.reduceMod,Nat.reduceDiv,stepH,stepM,toMs1,toMs,toMs0,strK,pubK,pubF,pubV,yaq,yar,yao,yap,go_sem,byq,e_ZNew,hSch,eG,onC_cod hL1,Nat.zero_min,cp0,hS,schAV,schC]
  refine ⟨x2,⟨rfl,by omega⟩,?_⟩
  rw [hB2,hz2]
  simp only [blkE,blkP,bhq,Nat.reduceMod,Nat.reduceDiv,stepH,stepM,toMs1,toMs,toMs0,strK,pubK,pubF,pubV,yaq,yar,yao,yap,go_sem,byq,e_CRequest,onC_cod hL2,Nat.zero_min,cp0]
  refine ⟨S,⟨rfl,hG⟩,?_⟩
  simp only [blkE,blkP,bhq,Nat.reduceMod,Nat.reduceDiv,stepH,stepM,toMs1,toMs,toMs0,strK,pubK,pubF,pubV,yaq,yar,yao,yap,go_sem,byq,e_CRequest,onC_cod hL2,Nat.zero_min,cp0,hRR,reqAV,reqC,p_xEncR]
  refine ⟨R,⟨rfl,hR.1⟩,?_⟩
  rw [hW]
  have hpos:0<W.length:=List.length_pos_iff.2 hWn
  have c0:((W.length:Int)==0)=false:=by simp;omega
  have hwb:W.isEmpty=false:=by cases W<;>simp_all
  have hwn:bys W≠[]:=fun e=>hWn (by rwa [zmb] at e)
  have htk:W.take W.length=W:=List.take_length
  dsimp only
  obtain ⟨ia,hia⟩:∃ ia:Nat,at' % (W.length:Int)=(ia:Int):=⟨(at' % (W.length:Int)).toNat,by have:=Int.emod_nonneg at' (show ((W.length:Nat):Int)≠0 by omega);omega⟩
  have hial:ia<W.length:=by have:=Int.emod_lt_of_pos at' (show (0:Int)<((W.length:Nat):Int) by omega);omega
  obtain ⟨Hb,hHb⟩:∃ Hb,(((H.push (codV B1 w1)).push (AObj.cells [AV.slice Mark.any 3 (List.map fieldAV S.fields),AV.slice Mark.any 3 (List.map headerAV S.headers),AV.slice Mark.any 5 (List.map stateAV S.states),AV.slice Mark.any 5 (List.map actionAV S.actions),AV.slice Mark.any 8 (List.map tableAV S.tables),AV.slice Mark.any 2 (List.map stageAV S.stages),AV.slice Mark.any 6 (List.map roleAV S.roles),AV.slice Mark.any 6 (List.map refAV S.refs),AV.int IntKind.i64 S.maxBatch,AV.int IntKind.i64 S.budget])).push (codV B2 w2))=Hb:=⟨_,rfl⟩
  rw [hHb]
  have hb1':Hb.nx=H.nx+1+1+1:=by rw [← hHb];rfl
  have hb3':Hb.Closed:=by
    rw [← hHb]
    exact closed_cells (closed_cells (closed_cells hcl codV_lt) (ltL_iff.2 fun j hj=>AV.lt_cells (lt_sch S) j hj)) codV_lt
  have hb4':H.Le Hb:=by rw [← hHb];repeat (first | exact AHeap.Le.refl _ | refine AHeap.Le.push ?_ _)
  clear hHb
  simp only [blkE,blkP,bhq,Nat.reduceMod,Nat.reduceDiv,stepH,stepM,toMs1,toMs,toMs0,strK,pubK,pubF,pubV,yaq,yar,yao,yap,go_sem,byq,c0,hwb,htk,p_ZMod,hia,Int.toNat_natCast,hb1']
  refine ⟨⟨by omega,by omega⟩,hwn,fun kk=>⟨⟨by omega,by omega,by omega,by omega⟩,⟨by omega,by omega⟩,by rw [List.length_append,zks];omega,?_⟩⟩
  have hgd:(bys W++List.replicate kk AV.junk).getD ia .junk=ofByte W[ia]:=by
    rw [List.getD_eq_getElem?_getD,List.getElem?_append_left (by rw [zks];exact hial),← List.getD_eq_getElem?_getD,bys_get hial]
    simp [List.getD_eq_getElem?_getD,hial]
  obtain ⟨eb,heb⟩:∃ eb:UInt8,AV.int .u8 (ixor .u8 ((W[ia].toNat:Nat):Int) by')=ofByte eb:=by unfold ixor;exact ⟨_,wrap_u8⟩
  obtain ⟨e7,he7⟩:∃ e7:UInt8,AV.int .u8 (iand .u8 by' 7)=ofByte e7:=⟨_,u8fix ⟨_,rfl⟩⟩
  have hsp:splice (bys W++List.replicate kk AV.junk) ia (bys [eb])=bys (W.set ia eb)++List.replicate kk AV.junk:=by
    show splice _ ia [ofByte eb]=_
    rw [splice_one,List.set_append_left _ _ (by rw [zks];exact hial)]
    congr 1
    unfold bys;rw [List.map_set]
  have hrw:rowsOf 1 W.length (bys (W.set ia eb)++List.replicate kk AV.junk)=bys (W.set ia eb):=rows_junkM (by rw [List.length_set])
  have hbl:(W.set ia eb).length=W.length:=List.length_set
  generalize W[ia]=cc at *
  generalize W.set ia eb=Bd at *
  have hgd':(bys W++List.replicate kk AV.junk).getD ia .junk=.int .u8 ((cc.toNat:Nat):Int):=hgd
  have hlc:(bys W++List.replicate kk AV.junk).length=W.length+kk:=by rw [List.length_append,zks,List.length_replicate]
  have hle1:(1=1∧W.length≤W.length)=True:=eq_true ⟨rfl,Nat.le_refl _⟩
  simp only [blkE,blkP,bhq,Nat.reduceMod,Nat.reduceDiv,stepH,stepM,toMs1,toMs,toMs0,strK,pubK,pubF,pubV,yaq,yar,yao,yap,go_sem,byq,hgd',heb,hsp,hlc,zll,zlm,hb1']
  refine ⟨by omega,by omega,1,W.length,?_⟩
  have z01:((0:Nat)=1)=False:=by simp
  have z01':((0:Int)=1)=False:=by simp
  have ht1:(List.take 1 W).length=1:=by rw [List.length_take];omega
  simp only [blkE,blkP,bhq,Nat.reduceMod,Nat.reduceDiv,stepH,stepM,toMs1,toMs,toMs0,strK,pubK,pubF,pubV,yaq,yar,yao,yap,go_sem,byq,hle1,hrw,Nat.le_refl,eq_self,hbl,zns,zll,zlm,hb1',p_ZMod,hia,he7,z01,z01',ht1,if_false]
  refine ⟨⟨by omega,by omega,by omega,by omega⟩,⟨by omega,by omega,by omega⟩,⟨by omega,by omega⟩,⟨by omega,by omega⟩,⟨by omega,by omega,by omega,by omega⟩,⟨by omega,by omega⟩,?_⟩
  generalize hLm:(if B0.isEmpty=true then Mark.full else Mark.own (H.nx+1+1+1+1+1+1))=mk at *
  have hmk:∀ j,mk=.own j→j=H.nx+1+1+1+1+1+1:=fun j h=>by
    rw [← hLm] at h
    split at h
    · cases h
    · cases h;rfl
  generalize hLm5:(if B0.isEmpty=true then Mark.full else Mark.own (H.nx+1+1+1+1+1))=mk5 at *
  have hmk5:∀ j,mk5=.own j→j=H.nx+1+1+1+1+1:=fun j h=>by
    rw [← hLm5] at h
    split at h
    · cases h
    · cases h;rfl
  generalize hRl:[AV.slice Mark.any 1 (bys B0),AV.slice Mark.any 1 (bys W),AV.slice (Mark.own (H.nx+1+1+1+1)) 1 (bys Bd),AV.slice Mark.any 1 (bys (List.take ia W)),AV.slice (Mark.own (H.nx+1+1+1+1)) 1 (bys (Bd++B0)),AV.slice mk5 1 (bys (e7::B0)),AV.slice mk 1 (bys (List.take 1 W++B0))]=Rl
  have hR7:Rl.length=7:=by rw [← hRl];rfl
  have hRb:∀ i,i<7→∃ m s,Rl.getD i .junk=.slice m 1 (bys s)∧s.length≤8200:=by
    intro i hi
    rw [← hRl]
    rcases (by omega:i=0∨i=1∨i=2∨i=3∨i=4∨i=5∨i=6) with rfl | rfl | rfl | rfl | rfl | rfl | rfl
    · exact ⟨_,B0,rfl,by omega⟩
    · exact ⟨_,W,rfl,by omega⟩
    · exact ⟨_,Bd,rfl,by omega⟩
    · exact ⟨_,W.take ia,rfl,by rw [List.length_take];omega⟩
    · exact ⟨_,Bd++B0,rfl,by rw [List.length_append];omega⟩
    · exact ⟨_,e7::B0,rfl,by rw [yaz];omega⟩
    · exact ⟨_,W.take 1++B0,rfl,by rw [List.length_append];omega⟩
  obtain ⟨Hx,hHx⟩:∃ Hx,((((((Hb.push (AObj.cells (bys Bd++List.replicate kk AV.junk))).del (H.nx+1+1+1)).push (AObj.buf 1 (W.length+B0.length))).push (AObj.buf 1 (1+B0.length))).push (AObj.buf 1 (1+B0.length))).push (AObj.buf 1 7))=Hx:=⟨_,rfl⟩
  rw [hHx]
  have hx1:Hx.nx=H.nx+1+1+1+1+1+1+1+1:=by rw [← hHx];simp only [zkm,heap_nx_del,hb1']
  have hx2:Hx.Closed:=by rw [← hHx];exact closed_buf (closed_buf (closed_buf (closed_buf (closed_del (closed_cells hb3' ltL_junkedM)))))
  have hx0:H.Le Hx:=by rw [← hHx];exact (((((hb4'.push _).del (by omega)).push _).push _).push _).push _
  have hx3:(AV.slice .any 1 Rl).lt Hx.nx:=by
    rw [← hRl,hx1];simp (disch:=first | assumption | omega | (simp;done) | (simp;omega) | (simp only [bt,and_true];first | done | omega | (simp;done))) [↓zlw,beq,ybc,ybd,ybe,endOk,wk,wk2,wk1,wkM,wkL,wkLL,ybf,lt_sliceL,zkm,heap_nx_del,zlv]
    exact ⟨fun j h=>by have:=hmk5 j h;omega,fun j h=>by have:=hmk j h;omega⟩
  have hx5:H.nx≤Hx.nx:=by omega
  refine loop_introW (A:=Nat) (fun j=>[(74,.slice .any 1 Rl),(75,.int .i64 ((7:Nat):Int)),(76,.int .i64 (j:Int))]) (fun _=>Hx) (fun j=>j≤7) (fun j=>7 - j) 0 (by omega) ?_ fun j hj=>?_
  · refine ⟨by simp only [zjy,zkd,hx1];omega,AHeap.Le.refl _,hx2,?_,?_⟩
    · simp only [ltF,zmn,and_true]
      exact hx3
    · simp [subW,wk2,wk1,wkM,Fr.get]
  simp only [go_sem,byq]
  refine cond_split (fun hc2=>?_) (fun hc2=>?_)
  · have hj5:j<7:=by simp at hc2;omega
    obtain ⟨ms,s,hRj,hsl⟩:=hRb j hj5
    have ej:IntKind.i64.wrap ((j:Int)+1)=((j+1:Nat):Int):=by rw [wrap_i64]<;>omega
    simp only [blkE,blkP,bhq,Nat.reduceMod,Nat.reduceDiv,stepH,stepM,toMs1,toMs,toMs0,strK,pubK,pubF,pubV,yaq,yar,yao,yap,go_sem,byq,Int.toNat_natCast,hR7,hRj,hx1,p_mDecG,p_xDecR]
    refine ⟨⟨by omega,by omega⟩,s,⟨rfl,by omega⟩,?_⟩
    have hrc:=decF_rc s
    have hds:=dec_same s
    obtain ⟨⟨D,De⟩,hDD⟩:∃ D,decF s=D:=⟨_,rfl⟩
    rw [hDD] at hrc hds ⊢
    dsimp only at hrc
    have hne:(De != De)=false:=by simp
    simp only [blkE,blkP,bhq,Nat.reduceMod,Nat.reduceDiv,stepH,stepM,toMs1,toMs,toMs0,strK,pubK,pubF,pubV,yaq,yar,yao,yap,go_sem,byq,hx1,reqAV,reqC,p_xDecR]
    refine ⟨s,⟨rfl,by omega⟩,?_⟩
    rw [← hds]
    simp only [blkE,blkP,bhq,Nat.reduceMod,Nat.reduceDiv,stepH,stepM,toMs1,toMs,toMs0,strK,pubK,pubF,pubV,yaq,yar,yao,yap,go_sem,byq,hx1,reqAV,reqC,p_rSameR,hne]
    refine ⟨D,D,⟨rfl,rfl,hrc,hrc⟩,?_⟩
    have hee:eqR D D=true:=(eqR_iff D D).2 rfl
    simp only [blkE,blkP,bhq,Nat.reduceMod,Nat.reduceDiv,stepH,stepM,toMs1,toMs,toMs0,strK,pubK,pubF,pubV,yaq,yar,yao,yap,go_sem,byq,hx1,hee,ej]
    refine ⟨j+1,by omega,by omega,by (try simp only [zkm]);omega,by repeat (first | exact AHeap.Le.refl _ | refine AHeap.Le.push ?_ _),hx2,?_,?_⟩
    · simp only [ltF,zmn,and_true]
      exact hx3
    · simp [subW,wk2,wk1,wkM,Fr.get]
  · have hj5:j=7:=by simp at hc2;omega
    simp only [go_sem,byq,p_begun19]
    exact ⟨rfl,by first | exact hx0 | exact hx0.push _,hcl,by rw [zmo];trivial⟩
end Go.AL

