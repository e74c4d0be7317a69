/- Contracts and plain laws, a part of the proof; no condition of its own. -/
import Derived.Test.YtepgdamgklfnmaaGreatM20e
import Derived.Test.YtepgdamgklfnmaaGreatM19m
open List renaming length_cons → yaz, length_nil → yba, take_succ_cons → yaq, take_zero → yar, drop_succ_cons → yao, drop_zero → yap
open Go Go.AL Go.Proofs
namespace Go.AL
set_option linter.all false
set_option maxRecDepth 10000

def e_mReadReqG:List AV→AHeap→(AEnd→AHeap→Prop)→Prop
  | [.ptr id 0],H,K=>onR H id fun m l e=>True∧K (.ret (.tup [reqAV (rqF (m,l,e)).1,.int .i64 (rqF (m,l,e)).2.1])) (H.set id (.cells (cellR (rqF (m,l,e)).2.2)))
  | _,_,_=>False
set_option maxHeartbeats 8000000 in
theorem ok_mReadReqG:EntOk Tryz.prog 61 (Ent.effect e_mReadReqG):=by
  refine EntOk.effect fun args H K h=>?_
  unfold e_mReadReqG at h
  split at h
  rotate_left
  · exact h.elim
  rename_i id
  obtain ⟨m,l,e,hid,hle,h⟩:=onR_out h
  obtain ⟨hpre,hK⟩:=h
  refine ⟨_,_,hK,?_⟩
  clear hK
  have hl0:=AHeap.get_lt hid
  have hne:=far_of hl0
  have hss:=set_same hid
  have hcs:=cells_some hid
  have hcm:=fun cs=>@cells_set_same H id cs hl0
  have hgm:=fun o=>@get_set_same' H id o hl0
  obtain ⟨F,hF⟩:∃ F,rqF (m,l,e)=F:=⟨_,rfl⟩
  rw [hF]
  unfold rqF at hF
  have hQl:=uintR_l m l e 1
  have hQm:=uintR_m m l e 1
  generalize hQ:uintR (m,l,e) 1=Q at *
  obtain ⟨n,m1,l1,e1⟩:=Q
  dsimp only at hQl hQm hF
  have b1:l1.length≤100000:=by omega
  have e00:((0:Int) != 0)=false:=rfl
  cases hb:badKd (n,m1,l1,e1) 6
  case true =>
    rw [hb,if_pos rfl] at hF
    subst hF
    dsimp only [cellR]
    refine ACalls.of_defer mixed (Ω:=[(117,Ent.effect e_mKind),(118,Ent.pure p_RErr),(39,Ent.pure p_codecs),(93,Ent.effect e_rd1),(97,Ent.effect e_rd2),(100,Ent.effect e_rd3),(104,Ent.effect e_rd4),(107,Ent.effect e_rd5),(110,Ent.effect e_rd6),(82,Ent.pure p_RFinish)]) (TblOk.cons ok_mKind (TblOk.cons ok_RErr (TblOk.cons ok_codecs (TblOk.cons ok_rd1 (TblOk.cons ok_rd2 (TblOk.cons ok_rd3 (TblOk.cons ok_rd4 (TblOk.cons ok_rd5 (TblOk.cons ok_rd6 (TblOk.cons ok_RFinish TblOk.nil)))))))))) (T:=assoc [(8,[[],[],[],[0,2],[0,2]])]) (d:=6) (caps:=[2,3]) Tryz.func61 (by kernel_rfl) Tryz.func116 (by kernel_rfl) (by rfl) (by rfl) (rs:=[.cell 2 28,.cell 3 47]) (by rfl) (by kernel_rfl) (by kernel_rfl) (by decide) (by simp only [Tryz.ntmps61,yaz,yba];decide) (by simp only [zkn];omega) fun hcl hlt=>?_
    have hcl3:∀ m' l' e',mkOk m m'→(H.set id (.cells [.slice m' 1 (bys l'),.int .i64 e'])).Closed:=fun m' l' e' h=>closedR hid hcl m' h l' e'
    show aw _ _ _ (KI Tryz.prog [(117,Ent.effect e_mKind),(118,Ent.pure p_RErr),(39,Ent.pure p_codecs),(93,Ent.effect e_rd1),(97,Ent.effect e_rd2),(100,Ent.effect e_rd3),(104,Ent.effect e_rd4),(107,Ent.effect e_rd5),(110,Ent.effect e_rd6),(82,Ent.pure p_RFinish)] (contA _ _ _ _ _ _ _ _ _ _ _) []) _ _
    simp only [go_sem,contA_n,contA_T,contD_T,contD_r,contD_n,contD_p,bhq,Nat.reduceMod,Nat.reduceDiv,stepH,stepM,toMs1,toMs,toMs0,strK,pubK,pubF,pubV,yaq,yar,yao,yap,hne,hid,hcs,hcm,hgm,onR,onRo_some,onRo_nil,zlj,zlh,zks,and_true,true_and,hid,e_mKind,p_RErr,cellR,hQ,b1,hb,e00,if_true]
    refine ⟨hle,?_⟩
    refine readReq_panic (H:=H) (y:=.int .i64 0) (hcl3 _ _ _ hQm) (((AHeap.Le.refl _).push _).push _) (by simp only [zkn];omega) ?_ ?_ rfl rfl
    · rw [AHeap.get_push_lt _ _ (by simp only [zkm,zkn];omega)]
      exact AHeap.get_push_new _ _
    · exact AHeap.get_push_new _ _
  rw [hb,if_neg (by decide)] at hF
  by_cases he:e1=0
  case neg =>
    have d1:(e1 != 0)=true:=by simpa using he
    rw [if_pos he] at hF
    subst hF
    dsimp only [cellR]
    refine ACalls.of_defer mixed (Ω:=[(117,Ent.effect e_mKind),(118,Ent.pure p_RErr),(39,Ent.pure p_codecs),(93,Ent.effect e_rd1),(97,Ent.effect e_rd2),(100,Ent.effect e_rd3),(104,Ent.effect e_rd4),(107,Ent.effect e_rd5),(110,Ent.effect e_rd6),(82,Ent.pure p_RFinish)]) (TblOk.cons ok_mKind (TblOk.cons ok_RErr (TblOk.cons ok_codecs (TblOk.cons ok_rd1 (TblOk.cons ok_rd2 (TblOk.cons ok_rd3 (TblOk.cons ok_rd4 (TblOk.cons ok_rd5 (TblOk.cons ok_rd6 (TblOk.cons ok_RFinish TblOk.nil)))))))))) (T:=assoc [(8,[[],[],[],[0,2],[0,2]])]) (d:=6) (caps:=[2,3]) Tryz.func61 (by kernel_rfl) Tryz.func116 (by kernel_rfl) (by rfl) (by rfl) (rs:=[.cell 2 28,.cell 3 47]) (by rfl) (by kernel_rfl) (by kernel_rfl) (by decide) (by simp only [Tryz.ntmps61,yaz,yba];decide) (by simp only [zkn];omega) fun hcl hlt=>?_
    have hcl3:∀ m' l' e',mkOk m m'→(H.set id (.cells [.slice m' 1 (bys l'),.int .i64 e'])).Closed:=fun m' l' e' h=>closedR hid hcl m' h l' e'
    show aw _ _ _ (KI Tryz.prog [(117,Ent.effect e_mKind),(118,Ent.pure p_RErr),(39,Ent.pure p_codecs),(93,Ent.effect e_rd1),(97,Ent.effect e_rd2),(100,Ent.effect e_rd3),(104,Ent.effect e_rd4),(107,Ent.effect e_rd5),(110,Ent.effect e_rd6),(82,Ent.pure p_RFinish)] (contA _ _ _ _ _ _ _ _ _ _ _) []) _ _
    simp only [go_sem,contA_n,contA_T,contD_T,contD_r,contD_n,contD_p,bhq,Nat.reduceMod,Nat.reduceDiv,stepH,stepM,toMs1,toMs,toMs0,strK,pubK,pubF,pubV,yaq,yar,yao,yap,hne,hid,hcs,hcm,hgm,onR,onRo_some,onRo_nil,zlj,zlh,zks,and_true,true_and,hid,e_mKind,p_RErr,cellR,hQ,b1,hb,e00,if_false,Bool.false_eq_true,d1]
    refine ⟨hle,?_⟩
    refine readReq_ret (hcl3 _ _ _ hQm) (by repeat (first | exact AHeap.Le.refl _ | refine AHeap.Le.push ?_ _)) (by first | (simp only [go_sem];done) | (simp only [go_sem];rfl)) (by first | (simp only [go_sem];done) | (simp only [go_sem];rfl)) rfl ?_ rfl rfl
    simp [wk2,wkL,wk1,wkM,reqAV,reqC,zReq,zkt]
  subst he
  rw [if_neg (by decide)] at hF
  have hn:n=1∨n=2∨n=3∨n=4∨n=5∨n=6:=by
    simp [badKd] at hb
    omega
  obtain ⟨g1,g2⟩:=rdF_go n (m1,l1,0)
  dsimp only at g1 g2
  generalize hG:rdF n (m1,l1,0)=G at *
  obtain ⟨go,m2,l2,e2⟩:=G
  dsimp only at g1 g2 hF
  have b2:l2.length≤100000:=by omega
  have hmm:=mkOk_trans hQm g2
  rcases hn with rfl | rfl | rfl | rfl | rfl | rfl
  · have hw:IntKind.i64.wrap 0=0:=by decide
    have hg:codL.getD 0 .junk=.agg [.func (.func 90) [] [],.func (.func 91) [] [],.func (.func 93) [] []]:=rfl
    have et:((0:Int)).toNat=0:=rfl
    have hcd:codL.length=6:=rfl
    rw [show rdF 1 (m1,l1,0)=(some (rd1F (m1,l1,0)).1,(rd1F (m1,l1,0)).2) from rfl] at hG
    generalize hGk:rd1F (m1,l1,0)=G2 at hG
    obtain ⟨r,t⟩:=G2
    simp only [Prod.mk.injEq] at hG
    obtain ⟨rfl,rfl⟩:=hG
    dsimp only at hF
    subst hF
    dsimp only [cellR]
    refine ACalls.of_defer mixed (Ω:=[(117,Ent.effect e_mKind),(118,Ent.pure p_RErr),(39,Ent.pure p_codecs),(93,Ent.effect e_rd1),(97,Ent.effect e_rd2),(100,Ent.effect e_rd3),(104,Ent.effect e_rd4),(107,Ent.effect e_rd5),(110,Ent.effect e_rd6),(82,Ent.pure p_RFinish)]) (TblOk.cons ok_mKind (TblOk.cons ok_RErr (TblOk.cons ok_codecs (TblOk.cons ok_rd1 (TblOk.cons ok_rd2 (TblOk.cons ok_rd3 (TblOk.cons ok_rd4 (TblOk.cons ok_rd5 (TblOk.cons ok_rd6 (TblOk.cons ok_RFinish TblOk.nil)))))))))) (T:=assoc [(8,[[],[],[],[0,2],[0,2]])]) (d:=6) (caps:=[2,3]) Tryz.func61 (by kernel_rfl) Tryz.func116 (by kernel_rfl) (by rfl) (by rfl) (rs:=[.cell 2 28,.cell 3 47]) (by rfl) (by kernel_rfl) (by kernel_rfl) (by decide) (by simp only [Tryz.ntmps61,yaz,yba];decide) (by simp only [zkn];omega) fun hcl hlt=>?_
    have hcl3:∀ m' l' e',mkOk m m'→(H.set id (.cells [.slice m' 1 (bys l'),.int .i64 e'])).Closed:=fun m' l' e' h=>closedR hid hcl m' h l' e'
    show aw _ _ _ (KI Tryz.prog [(117,Ent.effect e_mKind),(118,Ent.pure p_RErr),(39,Ent.pure p_codecs),(93,Ent.effect e_rd1),(97,Ent.effect e_rd2),(100,Ent.effect e_rd3),(104,Ent.effect e_rd4),(107,Ent.effect e_rd5),(110,Ent.effect e_rd6),(82,Ent.pure p_RFinish)] (contA _ _ _ _ _ _ _ _ _ _ _) []) _ _
    simp only [go_sem,contA_n,contA_T,contD_T,contD_r,contD_n,contD_p,bhq,Nat.reduceMod,Nat.reduceDiv,stepH,stepM,toMs1,toMs,toMs0,strK,pubK,pubF,pubV,yaq,yar,yao,yap,hne,hid,hcs,hcm,hgm,onR,onRo_some,onRo_nil,zlj,zlh,zks,and_true,true_and,hid,e_mKind,p_RErr,cellR,hQ,b1,hb,e00,if_false,Bool.false_eq_true,p_codecs,hw,hg,et,hcd,e_rd1,hGk,p_RFinish,b2,reqAV,reqC]
    refine ⟨hle,⟨by decide,by decide⟩,?_⟩
    refine readReq_ret (r:={ r with kind:=1 }) (hcl3 _ _ _ hmm) (by repeat (first | exact AHeap.Le.refl _ | refine AHeap.Le.push ?_ _)) (by first | (simp only [go_sem];done) | (simp only [go_sem];rfl)) (by first | (simp only [go_sem];done) | (simp only [go_sem];rfl)) rfl ?_ rfl rfl
    simp [wk2,wkL,wk1,wkM,reqAV,reqC,zReq,zkt]
  skip
  · have hw:IntKind.i64.wrap 1=1:=by decide
    have hg:codL.getD 1 .junk=.agg [.func (.func 95) [] [],.func (.func 96) [] [],.func (.func 97) [] []]:=rfl
    have et:((1:Int)).toNat=1:=rfl
    have hcd:codL.length=6:=rfl
    rw [show rdF 2 (m1,l1,0)=(some (rd2F (m1,l1,0)).1,(rd2F (m1,l1,0)).2) from rfl] at hG
    generalize hGk:rd2F (m1,l1,0)=G2 at hG
    obtain ⟨r,t⟩:=G2
    simp only [Prod.mk.injEq] at hG
    obtain ⟨rfl,rfl⟩:=hG
    dsimp only at hF
    subst hF
    dsimp only [cellR]
    refine ACalls.of_defer mixed (Ω:=[(117,Ent.effect e_mKind),(118,Ent.pure p_RErr),(39,Ent.pure p_codecs),(93,Ent.effect e_rd1),(97,Ent.effect e_rd2),(100,Ent.effect e_rd3),(104,Ent.effect e_rd4),(107,Ent.effect e_rd5),(110,Ent.effect e_rd6),(82,Ent.pure p_RFinish)]) (TblOk.cons ok_mKind (TblOk.cons ok_RErr (TblOk.cons ok_codecs (TblOk.cons ok_rd1 (TblOk.cons ok_rd2 (TblOk.cons ok_rd3 (TblOk.cons ok_rd4 (TblOk.cons ok_rd5 (TblOk.cons ok_rd6 (TblOk.cons ok_RFinish TblOk.nil)))))))))) (T:=assoc [(8,[[],[],[],[0,2],[0,2]])]) (d:=6) (caps:=[2,3]) Tryz.func61 (by kernel_rfl) Tryz.func116 (by kernel_rfl) (by rfl) (by rfl) (rs:=[.cell 2 28,.cell 3 47]) (by rfl) (by kernel_rfl) (by kernel_rfl) (by decide) (by simp only [Tryz.ntmps61,yaz,yba];decide) (by simp only [zkn];omega) fun hcl hlt=>?_
    have hcl3:∀ m' l' e',mkOk m m'→(H.set id (.cells [.slice m' 1 (bys l'),.int .i64 e'])).Closed:=fun m' l' e' h=>closedR hid hcl m' h l' e'
    show aw _ _ _ (KI Tryz.prog [(117,Ent.effect e_mKind),(118,Ent.pure p_RErr),(39,Ent.pure p_codecs),(93,Ent.effect e_rd1),(97,Ent.effect e_rd2),(100,Ent.effect e_rd3),(104,Ent.effect e_rd4),(107,Ent.effect e_rd5),(110,Ent.effect e_rd6),(82,Ent.pure p_RFinish)] (contA _ _ _ _ _ _ _ _ _ _ _) []) _ _
    simp only [go_sem,contA_n,contA_T,contD_T,contD_r,contD_n,contD_p,bhq,Nat.reduceMod,Nat.reduceDiv,stepH,stepM,toMs1,toMs,toMs0,strK,pubK,pubF,pubV,yaq,yar,yao,yap,hne,hid,hcs,hcm,hgm,onR,onRo_some,onRo_nil,zlj,zlh,zks,and_true,true_and,hid,e_mKind,p_RErr,cellR,hQ,b1,hb,e00,if_false,Bool.false_eq_true,p_codecs,hw,hg,et,hcd,e_rd2,hGk,p_RFinish,b2,reqAV,reqC]
    refine ⟨hle,⟨by decide,by decide⟩,?_⟩
    refine readReq_ret (r:={ r with kind:=2 }) (hcl3 _ _ _ hmm) (by repeat (first | exact AHeap.Le.refl _ | refine AHeap.Le.push ?_ _)) (by first | (simp only [go_sem];done) | (simp only [go_sem];rfl)) (by first | (simp only [go_sem];done) | (simp only [go_sem];rfl)) rfl ?_ rfl rfl
    simp [wk2,wkL,wk1,wkM,reqAV,reqC,zReq,zkt]
  skip
  · have hw:IntKind.i64.wrap 2=2:=by decide
    have hg:codL.getD 2 .junk=.agg [.func (.func 98) [] [],.func (.func 99) [] [],.func (.func 100) [] []]:=rfl
    have et:((2:Int)).toNat=2:=rfl
    have hcd:codL.length=6:=rfl
    rw [show rdF 3 (m1,l1,0)=rd3F (m1,l1,0) from rfl] at hG
    cases go
    case none =>
      dsimp only at hF
      subst hF
      dsimp only [cellR]
      refine ACalls.of_defer mixed (Ω:=[(117,Ent.effect e_mKind),(118,Ent.pure p_RErr),(39,Ent.pure p_codecs),(93,Ent.effect e_rd1),(97,Ent.effect e_rd2),(100,Ent.effect e_rd3),(104,Ent.effect e_rd4),(107,Ent.effect e_rd5),(110,Ent.effect e_rd6),(82,Ent.pure p_RFinish)]) (TblOk.cons ok_mKind (TblOk.cons ok_RErr (TblOk.cons ok_codecs (TblOk.cons ok_rd1 (TblOk.cons ok_rd2 (TblOk.cons ok_rd3 (TblOk.cons ok_rd4 (TblOk.cons ok_rd5 (TblOk.cons ok_rd6 (TblOk.cons ok_RFinish TblOk.nil)))))))))) (T:=assoc [(8,[[],[],[],[0,2],[0,2]])]) (d:=6) (caps:=[2,3]) Tryz.func61 (by kernel_rfl) Tryz.func116 (by kernel_rfl) (by rfl) (by rfl) (rs:=[.cell 2 28,.cell 3 47]) (by rfl) (by kernel_rfl) (by kernel_rfl) (by decide) (by simp only [Tryz.ntmps61,yaz,yba];decide) (by simp only [zkn];omega) fun hcl hlt=>?_
      have hcl3:∀ m' l' e',mkOk m m'→(H.set id (.cells [.slice m' 1 (bys l'),.int .i64 e'])).Closed:=fun m' l' e' h=>closedR hid hcl m' h l' e'
      show aw _ _ _ (KI Tryz.prog [(117,Ent.effect e_mKind),(118,Ent.pure p_RErr),(39,Ent.pure p_codecs),(93,Ent.effect e_rd1),(97,Ent.effect e_rd2),(100,Ent.effect e_rd3),(104,Ent.effect e_rd4),(107,Ent.effect e_rd5),(110,Ent.effect e_rd6),(82,Ent.pure p_RFinish)] (contA _ _ _ _ _ _ _ _ _ _ _) []) _ _
      simp only [go_sem,contA_n,contA_T,contD_T,contD_r,contD_n,contD_p,bhq,Nat.reduceMod,Nat.reduceDiv,stepH,stepM,toMs1,toMs,toMs0,strK,pubK,pubF,pubV,yaq,yar,yao,yap,hne,hid,hcs,hcm,hgm,onR,onRo_some,onRo_nil,zlj,zlh,zks,and_true,true_and,hid,e_mKind,p_RErr,cellR,hQ,b1,hb,e00,if_false,Bool.false_eq_true,p_codecs,hw,hg,et,hcd,e_rd3,hG,rqEnd,p_RFinish,b2]
      refine ⟨hle,⟨by decide,by decide⟩,?_⟩
      refine readReq_panic (H:=H) (y:=.int .i64 0) (hcl3 _ _ _ hmm) (((AHeap.Le.refl _).push _).push _) (by simp only [zkn];omega) ?_ ?_ rfl rfl
      · rw [AHeap.get_push_lt _ _ (by simp only [zkm,zkn];omega)]
        exact AHeap.get_push_new _ _
      · exact AHeap.get_push_new _ _
    case some r =>
      dsimp only at hF
      subst hF
      dsimp only [cellR]
      refine ACalls.of_defer mixed (Ω:=[(117,Ent.effect e_mKind),(118,Ent.pure p_RErr),(39,Ent.pure p_codecs),(93,Ent.effect e_rd1),(97,Ent.effect e_rd2),(100,Ent.effect e_rd3),(104,Ent.effect e_rd4),(107,Ent.effect e_rd5),(110,Ent.effect e_rd6),(82,Ent.pure p_RFinish)]) (TblOk.cons ok_mKind (TblOk.cons ok_RErr (TblOk.cons ok_codecs (TblOk.cons ok_rd1 (TblOk.cons ok_rd2 (TblOk.cons ok_rd3 (TblOk.cons ok_rd4 (TblOk.cons ok_rd5 (TblOk.cons ok_rd6 (TblOk.cons ok_RFinish TblOk.nil)))))))))) (T:=assoc [(8,[[],[],[],[0,2],[0,2]])]) (d:=6) (caps:=[2,3]) Tryz.func61 (by kernel_rfl) Tryz.func116 (by kernel_rfl) (by rfl) (by rfl) (rs:=[.cell 2 28,.cell 3 47]) (by rfl) (by kernel_rfl) (by kernel_rfl) (by decide) (by simp only [Tryz.ntmps61,yaz,yba];decide) (by simp only [zkn];omega) fun hcl hlt=>?_
      have hcl3:∀ m' l' e',mkOk m m'→(H.set id (.cells [.slice m' 1 (bys l'),.int .i64 e'])).Closed:=fun m' l' e' h=>closedR hid hcl m' h l' e'
      show aw _ _ _ (KI Tryz.prog [(117,Ent.effect e_mKind),(118,Ent.pure p_RErr),(39,Ent.pure p_codecs),(93,Ent.effect e_rd1),(97,Ent.effect e_rd2),(100,Ent.effect e_rd3),(104,Ent.effect e_rd4),(107,Ent.effect e_rd5),(110,Ent.effect e_rd6),(82,Ent.pure p_RFinish)] (contA _ _ _ _ _ _ _ _ _ _ _) []) _ _
      simp only [go_sem,contA_n,contA_T,contD_T,contD_r,contD_n,contD_p,bhq,Nat.reduceMod,Nat.reduceDiv,stepH,stepM,toMs1,toMs,toMs0,strK,pubK,pubF,pubV,yaq,yar,yao,yap,hne,hid,hcs,hcm,hgm,onR,onRo_some,onRo_nil,zlj,zlh,zks,and_true,true_and,hid,e_mKind,p_RErr,cellR,hQ,b1,hb,e00,if_false,Bool.false_eq_true,p_codecs,hw,hg,et,hcd,e_rd3,hG,rqEnd,p_RFinish,b2,reqAV,reqC]
      refine ⟨hle,⟨by decide,by decide⟩,?_⟩
      refine readReq_ret (r:={ r with kind:=3 }) (hcl3 _ _ _ hmm) (by repeat (first | exact AHeap.Le.refl _ | refine AHeap.Le.push ?_ _)) (by first | (simp only [go_sem];done) | (simp only [go_sem];rfl)) (by first | (simp only [go_sem];done) | (simp only [go_sem];rfl)) rfl ?_ rfl rfl
      simp [wk2,wkL,wk1,wkM,reqAV,reqC,zReq,zkt]
  skip
  · have hw:IntKind.i64.wrap 3=3:=by decide
    have hg:codL.getD 3 .junk=.agg [.func (.func 102) [] [],.func (.func 103) [] [],.func (.func 104) [] []]:=rfl
    have et:((3:Int)).toNat=3:=rfl
    have hcd:codL.length=6:=rfl
    rw [show rdF 4 (m1,l1,0)=(some (rd4F (m1,l1,0)).1,(rd4F (m1,l1,0)).2) from rfl] at hG
    generalize hGk:rd4F (m1,l1,0)=G2 at hG
    obtain ⟨r,t⟩:=G2
    simp only [Prod.mk.injEq] at hG
    obtain ⟨rfl,rfl⟩:=hG
    dsimp only at hF
    subst hF
    dsimp only [cellR]
    refine ACalls.of_defer mixed (Ω:=[(117,Ent.effect e_mKind),(118,Ent.pure p_RErr),(39,Ent.pure p_codecs),(93,Ent.effect e_rd1),(97,Ent.effect e_rd2),(100,Ent.effect e_rd3),(104,Ent.effect e_rd4),(107,Ent.effect e_rd5),(110,Ent.effect e_rd6),(82,Ent.pure p_RFinish)]) (TblOk.cons ok_mKind (TblOk.cons ok_RErr (TblOk.cons ok_codecs (TblOk.cons ok_rd1 (TblOk.cons ok_rd2 (TblOk.cons ok_rd3 (TblOk.cons ok_rd4 (TblOk.cons ok_rd5 (TblOk.cons ok_rd6 (TblOk.cons ok_RFinish TblOk.nil)))))))))) (T:=assoc [(8,[[],[],[],[0,2],[0,2]])]) (d:=6) (caps:=[2,3]) Tryz.func61 (by kernel_rfl) Tryz.func116 (by kernel_rfl) (by rfl) (by rfl) (rs:=[.cell 2 28,.cell 3 47]) (by rfl) (by kernel_rfl) (by kernel_rfl) (by decide) (by simp only [Tryz.ntmps61,yaz,yba];decide) (by simp only [zkn];omega) fun hcl hlt=>?_
    have hcl3:∀ m' l' e',mkOk m m'→(H.set id (.cells [.slice m' 1 (bys l'),.int .i64 e'])).Closed:=fun m' l' e' h=>closedR hid hcl m' h l' e'
    show aw _ _ _ (KI Tryz.prog [(117,Ent.effect e_mKind),(118,Ent.pure p_RErr),(39,Ent.pure p_codecs),(93,Ent.effect e_rd1),(97,Ent.effect e_rd2),(100,Ent.effect e_rd3),(104,Ent.effect e_rd4),(107,Ent.effect e_rd5),(110,Ent.effect e_rd6),(82,Ent.pure p_RFinish)] (contA _ _ _ _ _ _ _ _ _ _ _) []) _ _
    simp only [go_sem,contA_n,contA_T,contD_T,contD_r,contD_n,contD_p,bhq,Nat.reduceMod,Nat.reduceDiv,stepH,stepM,toMs1,toMs,toMs0,strK,pubK,pubF,pubV,yaq,yar,yao,yap,hne,hid,hcs,hcm,hgm,onR,onRo_some,onRo_nil,zlj,zlh,zks,and_true,true_and,hid,e_mKind,p_RErr,cellR,hQ,b1,hb,e00,if_false,Bool.false_eq_true,p_codecs,hw,hg,et,hcd,e_rd4,hGk,p_RFinish,b2,reqAV,reqC]
    refine ⟨hle,⟨by decide,by decide⟩,?_⟩
    refine readReq_ret (r:={ r with kind:=4 }) (hcl3 _ _ _ hmm) (by repeat (first | exact AHeap.Le.refl _ | refine AHeap.Le.push ?_ _)) (by first | (simp only [go_sem];done) | (simp only [go_sem];rfl)) (by first | (simp only [go_sem];done) | (simp only [go_sem];rfl)) rfl ?_ rfl rfl
    simp [wk2,wkL,wk1,wkM,reqAV,reqC,zReq,zkt]
  skip
  · have hw:IntKind.i64.wrap 4=4:=by decide
    have hg:codL.getD 4 .junk=.agg [.func (.func 105) [] [],.func (.func 106) [] [],.func (.func 107) [] []]:=rfl
    have et:((4:Int)).toNat=4:=rfl
    have hcd:codL.length=6:=rfl
    rw [show rdF 5 (m1,l1,0)=(some (rd5F (m1,l1,0)).1,(rd5F (m1,l1,0)).2) from rfl] at hG
    generalize hGk:rd5F (m1,l1,0)=G2 at hG
    obtain ⟨r,t⟩:=G2
    simp only [Prod.mk.injEq] at hG
    obtain ⟨rfl,rfl⟩:=hG
    dsimp only at hF
    subst hF
    dsimp only [cellR]
    refine ACalls.of_defer mixed (Ω:=[(117,Ent.effect e_mKind),(118,Ent.pure p_RErr),(39,Ent.pure p_codecs),(93,Ent.effect e_rd1),(97,Ent.effect e_rd2),(100,Ent.effect e_rd3),(104,Ent.effect e_rd4),(107,Ent.effect e_rd5),(110,Ent.effect e_rd6),(82,Ent.pure p_RFinish)]) (TblOk.cons ok_mKind (TblOk.cons ok_RErr (TblOk.cons ok_codecs (TblOk.cons ok_rd1 (TblOk.cons ok_rd2 (TblOk.cons ok_rd3 (TblOk.cons ok_rd4 (TblOk.cons ok_rd5 (TblOk.cons ok_rd6 (TblOk.cons ok_RFinish TblOk.nil)))))))))) (T:=assoc [(8,[[],[],[],[0,2],[0,2]])]) (d:=6) (caps:=[2,3]) Tryz.func61 (by kernel_rfl) Tryz.func116 (by kernel_rfl) (by rfl) (by rfl) (rs:=[.cell 2 28,.cell 3 47]) (by rfl) (by kernel_rfl) (by kernel_rfl) (by decide) (by simp only [Tryz.ntmps61,yaz,yba];decide) (by simp only [zkn];omega) fun hcl hlt=>?_
    have hcl3:∀ m' l' e',mkOk m m'→(H.set id (.cells [.slice m' 1 (bys l'),.int .i64 e'])).Closed:=fun m' l' e' h=>closedR hid hcl m' h l' e'
    show aw _ _ _ (KI Tryz.prog [(117,Ent.effect e_mKind),(118,Ent.pure p_RErr),(39,Ent.pure p_codecs),(93,Ent.effect e_rd1),(97,Ent.effect e_rd2),(100,Ent.effect e_rd3),(104,Ent.effect e_rd4),(107,Ent.effect e_rd5),(110,Ent.effect e_rd6),(82,Ent.pure p_RFinish)] (contA _ _ _ _ _ _ _ _ _ _ _) []) _ _
    simp only [go_sem,contA_n,contA_T,contD_T,contD_r,contD_n,contD_p,bhq,Nat.reduceMod,Nat.reduceDiv,stepH,stepM,toMs1,toMs,toMs0,strK,pubK,pubF,pubV,yaq,yar,yao,yap,hne,hid,hcs,hcm,hgm,onR,onRo_some,onRo_nil,zlj,zlh,zks,and_true,true_and,hid,e_mKind,p_RErr,cellR,hQ,b1,hb,e00,if_false,Bool.false_eq_true,p_codecs,hw,hg,et,hcd,e_rd5,hGk,p_RFinish,b2,reqAV,reqC]
    refine ⟨hle,⟨by decide,by decide⟩,?_⟩
    refine readReq_ret (r:={ r with kind:=5 }) (hcl3 _ _ _ hmm) (by repeat (first | exact AHeap.Le.refl _ | refine AHeap.Le.push ?_ _)) (by first | (simp only [go_sem];done) | (simp only [go_sem];rfl)) (by first | (simp only [go_sem];done) | (simp only [go_sem];rfl)) rfl ?_ rfl rfl
    simp [wk2,wkL,wk1,wkM,reqAV,reqC,zReq,zkt]
  skip
  · have hw:IntKind.i64.wrap 5=5:=by decide
    have hg:codL.getD 5 .junk=.agg [.func (.func 108) [] [],.func (.func 109) [] [],.func (.func 110) [] []]:=rfl
    have et:((5:Int)).toNat=5:=rfl
    have hcd:codL.length=6:=rfl
    rw [show rdF 6 (m1,l1,0)=(some (rd6F (m1,l1,0)).1,(rd6F (m1,l1,0)).2) from rfl] at hG
    generalize hGk:rd6F (m1,l1,0)=G2 at hG
    obtain ⟨r,t⟩:=G2
    simp only [Prod.mk.injEq] at hG
    obtain ⟨rfl,rfl⟩:=hG
    dsimp only at hF
    subst hF
    dsimp only [cellR]
    refine ACalls.of_defer mixed (Ω:=[(117,Ent.effect e_mKind),(118,Ent.pure p_RErr),(39,Ent.pure p_codecs),(93,Ent.effect e_rd1),(97,Ent.effect e_rd2),(100,Ent.effect e_rd3),(104,Ent.effect e_rd4),(107,Ent.effect e_rd5),(110,Ent.effect e_rd6),(82,Ent.pure p_RFinish)]) (TblOk.cons ok_mKind (TblOk.cons ok_RErr (TblOk.cons ok_codecs (TblOk.cons ok_rd1 (TblOk.cons ok_rd2 (TblOk.cons ok_rd3 (TblOk.cons ok_rd4 (TblOk.cons ok_rd5 (TblOk.cons ok_rd6 (TblOk.cons ok_RFinish TblOk.nil)))))))))) (T:=assoc [(8,[[],[],[],[0,2],[0,2]])]) (d:=6) (caps:=[2,3]) Tryz.func61 (by kernel_rfl) Tryz.func116 (by kernel_rfl) (by rfl) (by rfl) (rs:=[.cell 2 28,.cell 3 47]) (by rfl) (by kernel_rfl) (by kernel_rfl) (by decide) (by simp only [Tryz.ntmps61,yaz,yba];decide) (by simp only [zkn];omega) fun hcl hlt=>?_
    have hcl3:∀ m' l' e',mkOk m m'→(H.set id (.cells [.slice m' 1 (bys l'),.int .i64 e'])).Closed:=fun m' l' e' h=>closedR hid hcl m' h l' e'
    show aw _ _ _ (KI Tryz.prog [(117,Ent.effect e_mKind),(118,Ent.pure p_RErr),(39,Ent.pure p_codecs),(93,Ent.effect e_rd1),(97,Ent.effect e_rd2),(100,Ent.effect e_rd3),(104,Ent.effect e_rd4),(107,Ent.effect e_rd5),(110,Ent.effect e_rd6),(82,Ent.pure p_RFinish)] (contA _ _ _ _ _ _ _ _ _ _ _) []) _ _
    simp only [go_sem,contA_n,contA_T,contD_T,contD_r,contD_n,contD_p,bhq,Nat.reduceMod,Nat.reduceDiv,stepH,stepM,toMs1,toMs,toMs0,strK,pubK,pubF,pubV,yaq,yar,yao,yap,hne,hid,hcs,hcm,hgm,onR,onRo_some,onRo_nil,zlj,zlh,zks,and_true,true_and,hid,e_mKind,p_RErr,cellR,hQ,b1,hb,e00,if_false,Bool.false_eq_true,p_codecs,hw,hg,et,hcd,e_rd6,hGk,p_RFinish,b2,reqAV,reqC]
    refine ⟨hle,⟨by decide,by decide⟩,?_⟩
    refine readReq_ret (r:={ r with kind:=6 }) (hcl3 _ _ _ hmm) (by repeat (first | exact AHeap.Le.refl _ | refine AHeap.Le.push ?_ _)) (by first | (simp only [go_sem];done) | (simp only [go_sem];rfl)) (by first | (simp only [go_sem];done) | (simp only [go_sem];rfl)) rfl ?_ rfl rfl
    simp [wk2,wkL,wk1,wkM,reqAV,reqC,zReq,zkt]
end Go.AL


open Go Go.AL Go.Proofs
namespace Go.AL
set_option linter.all false
set_option maxRecDepth 10000

def decF (b:List UInt8):SReq × Int :=
  if 8000<b.length then (zReq,3) else if (rqF (.any,b,0)).2.1≠0 then (zReq,(rqF (.any,b,0)).2.1) else ((rqF (.any,b,0)).1,0)
def p_mDecG:List AV→AHeap→(AV→Prop)→Prop
  | [.slice _ 1 l],_,K=>∃ b:List UInt8,(l=bys b∧b.length≤100000)∧K (.tup [reqAV (decF b).1,.int .i64 (decF b).2])
  | _,_,_=>False
set_option maxHeartbeats 4000000 in
theorem ok_mDecG:EntOk Tryz.prog 23 (Ent.pure p_mDecG):=by
  refine EntOk.pure fun args H K h=>?_
  unfold p_mDecG at h
  split at h
  rotate_left
  · exact h.elim
  rename_i m l
  obtain ⟨b,⟨rfl,hb⟩,hK⟩:=h
  refine ⟨_,hK,?_⟩
  clear hK
  obtain ⟨D,hD⟩:∃ D,decF b=D:=⟨_,rfl⟩
  rw [hD]
  unfold decF at hD
  obtain ⟨r,e,t⟩:∃ r e t,rqF (.any,b,0)=(r,e,t):=⟨_,_,_,rfl⟩
  obtain ⟨s,hq⟩:=t
  rw [hq] at hD
  dsimp only at hD
  by_cases h1:8000<b.length
  · have d1:decide ((b.length:Int) > 8000)=true:=decide_eq_true (by omega)
    rw [if_pos h1] at hD
    subst hD
    refine ACalls.of_aw (Ω:=[(62,Ent.effect e_New),(61,Ent.effect e_mReadReqG)]) (T:=assoc []) mixed (TblOk.cons ok_New (TblOk.cons ok_mReadReqG TblOk.nil)) Tryz.func23 (by kernel_rfl) (by rfl) (rs:=[.cell 2 28,.tmp 3]) (by rfl) (by kernel_rfl) (by simp only [Tryz.ntmps23,yaz,yba];decide) (Nat.le_refl _) fun hcl hlt=>?_
    change aw _ _ _ (KI Tryz.prog [(62,Ent.effect e_New),(61,Ent.effect e_mReadReqG)] (aEnd Tryz.prog [.cell 2 28,.tmp 3] H.nx _ _ (assoc [])) []) _ _
    clear hlt
    simp only [go_sem,byq,d1]
    refine ⟨?_,by repeat (first | exact AHeap.Le.refl _ | refine AHeap.Le.push ?_ _),hcl,?_⟩
    · simp [wk,wkLL,wk2,wkL,wk1,wkM,reqAV,reqC,zReq,zkt]
    · rw [zna]
      exact ⟨lt_req _,by rw [zmn];trivial,trivial⟩
  have d1:decide ((b.length:Int) > 8000)=false:=decide_eq_false (by omega)
  rw [if_neg h1] at hD
  by_cases h2:e=0
  · have d2:(e != 0)=false:=by rw [h2];rfl
    rw [if_neg (by rw [h2];decide)] at hD
    subst hD
    refine ACalls.of_aw (Ω:=[(62,Ent.effect e_New),(61,Ent.effect e_mReadReqG)]) (T:=assoc []) mixed (TblOk.cons ok_New (TblOk.cons ok_mReadReqG TblOk.nil)) Tryz.func23 (by kernel_rfl) (by rfl) (rs:=[.cell 2 28,.tmp 3]) (by rfl) (by kernel_rfl) (by simp only [Tryz.ntmps23,yaz,yba];decide) (Nat.le_refl _) fun hcl hlt=>?_
    change aw _ _ _ (KI Tryz.prog [(62,Ent.effect e_New),(61,Ent.effect e_mReadReqG)] (aEnd Tryz.prog [.cell 2 28,.tmp 3] H.nx _ _ (assoc [])) []) _ _
    clear hlt
    simp only [go_sem,byq,d1,e_New,e_mReadReqG,onR,onRo_some,hq,reqAV,reqC]
    refine ⟨by omega,by omega,?_⟩
    try simp only [go_sem,byq,d2]
    refine ⟨?_,by repeat (first | exact AHeap.Le.refl _ | refine AHeap.Le.push ?_ _),hcl,?_⟩
    · simp [wk,wkLL,wk2,wkL,wk1,wkM,reqAV,reqC,zkt]
    · rw [zna]
      exact ⟨lt_req _,by rw [zmn];trivial,trivial⟩
  · have d2:(e != 0)=true:=by simpa using h2
    rw [if_pos h2] at hD
    subst hD
    refine ACalls.of_aw (Ω:=[(62,Ent.effect e_New),(61,Ent.effect e_mReadReqG)]) (T:=assoc []) mixed (TblOk.cons ok_New (TblOk.cons ok_mReadReqG TblOk.nil)) Tryz.func23 (by kernel_rfl) (by rfl) (rs:=[.cell 2 28,.tmp 3]) (by rfl) (by kernel_rfl) (by simp only [Tryz.ntmps23,yaz,yba];decide) (Nat.le_refl _) fun hcl hlt=>?_
    change aw _ _ _ (KI Tryz.prog [(62,Ent.effect e_New),(61,Ent.effect e_mReadReqG)] (aEnd Tryz.prog [.cell 2 28,.tmp 3] H.nx _ _ (assoc [])) []) _ _
    clear hlt
    simp only [go_sem,byq,d1,e_New,e_mReadReqG,onR,onRo_some,hq,reqAV,reqC]
    refine ⟨by omega,by omega,?_⟩
    try simp only [go_sem,byq,d2]
    refine ⟨?_,by repeat (first | exact AHeap.Le.refl _ | refine AHeap.Le.push ?_ _),hcl,?_⟩
    · simp [wk,wkLL,wk2,wkL,wk1,wkM,reqAV,reqC,zReq,zkt]
    · rw [zna]
      exact ⟨lt_req _,by rw [zmn];trivial,trivial⟩
def xkF (s:RS) (hi:Int):Int × RS:=((uintR s 1).1,if badKd (uintR s 1) hi then ((uintR s 1).2.1,(uintR s 1).2.2.1,2) else (uintR s 1).2)
def e_xKind:List AV→AHeap→(AEnd→AHeap→Prop)→Prop
  | [.ptr id 0,.int .i64 lo,.int .i64 hi],H,K=>onR H id fun m l e=>lo=1∧K (.ret (.int .i64 (xkF (m,l,e) hi).1)) (H.set id (.cells (cellR (xkF (m,l,e) hi).2)))
  | _,_,_=>False
set_option maxHeartbeats 4000000 in
theorem ok_xKind:EntOk Tryz.prog 63 (Ent.effect e_xKind):=by
  refine EntOk.effect fun args H K h=>?_
  unfold e_xKind at h
  split at h
  rotate_left
  · exact h.elim
  rename_i id lo hi
  obtain ⟨m,l,e,hid,hle,h⟩:=onR_out h
  obtain ⟨hpre,hK⟩:=h
  refine ⟨_,_,hK,?_⟩
  clear hK
  have hl0:=AHeap.get_lt hid
  have hne:=far_of hl0
  have hss:=set_same hid
  have hcs:=cells_some hid
  have hcm:=fun cs=>@cells_set_same H id cs hl0
  have hgm:=fun o=>@get_set_same' H id o hl0
  subst hpre
  unfold xkF
  have hQl:=uintR_l m l e 1
  have hQm:=uintR_m m l e 1
  generalize hQ:uintR (m,l,e) 1=Q at *
  obtain ⟨n,m1,l1,e1⟩:=Q
  dsimp only at hQl hQm ⊢
  have b1:l1.length≤100000:=by omega
  cases hb:badKd (n,m1,l1,e1) hi
  · rw [if_neg (by decide)]
    dsimp only [cellR]
    refine ACalls.of_aw (Ω:=[(64,Ent.effect e_xUint),(42,Ent.pure p_xWithin)]) (T:=assoc []) mixed (TblOk.cons ok_xUint (TblOk.cons ok_xWithin TblOk.nil)) Tryz.func63 (by kernel_rfl) (by rfl) (rs:=[.tmp 6]) (by rfl) (by kernel_rfl) (by simp only [Tryz.ntmps63,yaz,yba];decide) (by simp only [zkn];omega) fun hcl hlt=>?_
    change aw _ _ _ (KI Tryz.prog [(64,Ent.effect e_xUint),(42,Ent.pure p_xWithin)] (aEnd Tryz.prog [.tmp 6] H.nx _ _ (assoc [])) []) _ _
    clear hlt
    have hclz:(H.set id (.cells [.slice m1 1 (bys l1),.int .i64 e1])).Closed:=closedR hid hcl m1 hQm l1 e1
    simp only [go_sem,byq,hne,hid,hcs,hcm,hgm,onR,onRo_some,onRo_nil,zlj,zlh,zks,and_true,true_and,hid,e_xUint,hQ,b1,cellR,p_xWithin]
    refine ⟨hle,both_split (fun h1=>?_) (fun h1=>?_)⟩
    · have a1:e1=0:=by simpa using h1
      have d:decide (1≤n∧n≤hi)=true:=by
        simp [badKd,a1] at hb
        exact decide_eq_true (by omega)
      simp only [go_sem,byq,hne,hid,hcs,hcm,hgm,onR,onRo_some,onRo_nil,zlj,zlh,zks,and_true,true_and,hid,d]
      exact ⟨rfl,AHeap.Le.refl _,hclz,by rw [zmn];trivial⟩
    · exact ⟨rfl,AHeap.Le.refl _,hclz,by rw [zmn];trivial⟩
  · rw [if_pos rfl]
    dsimp only [cellR]
    refine ACalls.of_aw (Ω:=[(64,Ent.effect e_xUint),(42,Ent.pure p_xWithin)]) (T:=assoc []) mixed (TblOk.cons ok_xUint (TblOk.cons ok_xWithin TblOk.nil)) Tryz.func63 (by kernel_rfl) (by rfl) (rs:=[.tmp 6]) (by rfl) (by kernel_rfl) (by simp only [Tryz.ntmps63,yaz,yba];decide) (by simp only [zkn];omega) fun hcl hlt=>?_
    change aw _ _ _ (KI Tryz.prog [(64,Ent.effect e_xUint),(42,Ent.pure p_xWithin)] (aEnd Tryz.prog [.tmp 6] H.nx _ _ (assoc [])) []) _ _
    clear hlt
    have hclz:(H.set id (.cells [.slice m1 1 (bys l1),.int .i64 2])).Closed:=closedR hid hcl m1 hQm l1 2
    simp only [go_sem,byq,hne,hid,hcs,hcm,hgm,onR,onRo_some,onRo_nil,zlj,zlh,zks,and_true,true_and,hid,e_xUint,hQ,b1,cellR,p_xWithin]
    refine ⟨hle,both_split (fun h1=>?_) (fun h1=>?_)⟩
    · have a1:e1=0:=by simpa using h1
      have d:decide (1≤n∧n≤hi)=false:=by
        simp [badKd,a1] at hb
        exact decide_eq_false (by omega)
      simp only [go_sem,byq,hne,hid,hcs,hcm,hgm,onR,onRo_some,onRo_nil,zlj,zlh,zks,and_true,true_and,hid,d]
      exact ⟨rfl,AHeap.Le.refl _,hclz,by rw [zmn];trivial⟩
    · exfalso
      have a1:¬ e1=0:=by simpa using h1
      simp [badKd,a1] at hb
end Go.AL

