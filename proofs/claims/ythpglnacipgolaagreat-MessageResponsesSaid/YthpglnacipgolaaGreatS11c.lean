/- Contracts and plain laws, a part of the proof; no condition of its own. -/
import Derived.Test.YthpglnacipgolaaGreatS10w
open List renaming length_cons → yaz, length_nil → yba, take_of_length_le → ybc, drop_append → ybd, take_append → ybe, drop_eq_nil_of_le → ybf, cons_append → yal, nil_append → yak, length_map → ybb, take_succ_cons → yaq, take_zero → yar, drop_succ_cons → yao, drop_zero → yap
open Go Go.AL Go.Proofs
namespace Go.AL
set_option linter.all false
set_option maxRecDepth 10000

def pI (m:SMatch):Int:=if m.present=true then 1 else 0
def cmpM (m n:SMatch):Int:=firstI [cmpI (pI m) (pI n),cmpN m.value n.value,cmpN m.mask n.mask,cmpI m.pfx n.pfx,cmpN m.high n.high]
theorem cmpI_self {a:Int}:cmpI a a=0:=by simp [cmpI]
theorem cmpN_self {a:Nat}:cmpN a a=0:=by simp [cmpN]
def p_rNumber:List AV→AHeap→(AV→Prop)→Prop
  | [.int .i64 a,.int .i64 b],_,K=>K (.int .i64 (cmpI a b))
  | _,_,_=>False
theorem ok_rNumber:EntOk Tryz.prog 335 (Ent.pure p_rNumber):=by
  refine EntOk.pure fun args H K h=>?_
  unfold p_rNumber at h
  split at h
  rotate_left
  · exact h.elim
  rename_i a b
  refine ⟨_,h,?_⟩
  clear h
  unfold cmpI
  by_cases h1:a<b
  · rw [if_pos h1]
    have d1:decide (a<b)=true:=decide_eq_true h1
    refine ACalls.of_aw (Ω:=[]) (T:=assoc []) mixed TblOk.nil Tryz.func335 (by kernel_rfl) (by rfl) (rs:=[.tmp 4]) (by rfl) (by kernel_rfl) (by simp only [Tryz.ntmps335,yaz,yba];decide) (Nat.le_refl _) fun hcl hlt=>?_
    change aw _ _ _ (KI Tryz.prog [] (aEnd Tryz.prog [.tmp 4] H.nx _ _) []) _ _
    clear hlt
    simp only [go_sem,d1]
    simp (disch:=first | assumption | omega | (simp;done) | (simp;omega) | (simp only [bt,and_true];first | done | omega | (simp;done))) [↓zlw,beq,ybc,ybd,ybe,endOk,wk,wk2,wk1,wkM,wkL,wkLL,ybf,hcl]
  · rw [if_neg h1]
    have d1:decide (a<b)=false:=decide_eq_false h1
    by_cases h2:b<a
    · rw [if_pos h2]
      have d2:decide (a > b)=true:=decide_eq_true h2
      refine ACalls.of_aw (Ω:=[]) (T:=assoc []) mixed TblOk.nil Tryz.func335 (by kernel_rfl) (by rfl) (rs:=[.tmp 4]) (by rfl) (by kernel_rfl) (by simp only [Tryz.ntmps335,yaz,yba];decide) (Nat.le_refl _) fun hcl hlt=>?_
      change aw _ _ _ (KI Tryz.prog [] (aEnd Tryz.prog [.tmp 4] H.nx _ _) []) _ _
      clear hlt
      simp only [go_sem,d1,d2]
      simp (disch:=first | assumption | omega | (simp;done) | (simp;omega) | (simp only [bt,and_true];first | done | omega | (simp;done))) [↓zlw,beq,ybc,ybd,ybe,endOk,wk,wk2,wk1,wkM,wkL,wkLL,ybf,hcl]
    · rw [if_neg h2]
      have d2:decide (a > b)=false:=decide_eq_false h2
      refine ACalls.of_aw (Ω:=[]) (T:=assoc []) mixed TblOk.nil Tryz.func335 (by kernel_rfl) (by rfl) (rs:=[.tmp 4]) (by rfl) (by kernel_rfl) (by simp only [Tryz.ntmps335,yaz,yba];decide) (Nat.le_refl _) fun hcl hlt=>?_
      change aw _ _ _ (KI Tryz.prog [] (aEnd Tryz.prog [.tmp 4] H.nx _ _) []) _ _
      clear hlt
      simp only [go_sem,d1,d2]
      simp (disch:=first | assumption | omega | (simp;done) | (simp;omega) | (simp only [bt,and_true];first | done | omega | (simp;done))) [↓zlw,beq,ybc,ybd,ybe,endOk,wk,wk2,wk1,wkM,wkL,wkLL,ybf,hcl]
def p_rMatch:List AV→AHeap→(AV→Prop)→Prop
  | [.agg l,.agg k],_,K=>∃ m n:SMatch,(l=matchC m∧k=matchC n∧MOk m∧MOk n)∧K (.int .i64 (cmpM m n))
  | _,_,_=>False
theorem firstI_cons {a:Int} {l:List Int}:firstI (a::l)=if (a != 0)=true then a else firstI l:=rfl
theorem cmpN_zero {x y:Nat}:(cmpN x y != 0)=!decide (x=y):=by
  unfold cmpN
  split
  · simp_all
  · split<;>simp_all
set_option maxHeartbeats 4000000 in
theorem ok_rMatch:EntOk Tryz.prog 369 (Ent.pure p_rMatch):=by
  refine EntOk.pure fun args H K h=>?_
  unfold p_rMatch at h
  split at h
  rotate_left
  · exact h.elim
  rename_i l k
  obtain ⟨m,n,⟨rfl,rfl,⟨v1,k1,g1⟩,⟨v2,k2,g2⟩⟩,hK⟩:=h
  refine ⟨_,hK,?_⟩
  clear hK
  have i1:=isV_of v1
  have i2:=isV_of v2
  have i3:=isV_of k1
  have i4:=isV_of k2
  have i5:=isV_of g1
  have i6:=isV_of g2
  by_cases hp:m.present=n.present
  · have dp:(m.present==n.present)=true:=by simp [hp]
    have c0:cmpI (pI m) (pI n)=0:=by unfold pI;rw [hp];exact cmpI_self
    by_cases hv:m.value=n.value
    · have dv:decide (m.value=n.value)=true:=decide_eq_true hv
      have c1:cmpN m.value n.value=0:=by rw [hv];exact cmpN_self
      by_cases hm:m.mask=n.mask
      · have dm:decide (m.mask=n.mask)=true:=decide_eq_true hm
        have c2:cmpN m.mask n.mask=0:=by rw [hm];exact cmpN_self
        by_cases hf:m.pfx=n.pfx
        · have df:(m.pfx != n.pfx)=false:=by simp [hf]
          have c3:cmpI m.pfx n.pfx=0:=by rw [hf];exact cmpI_self
          have e:cmpM m n=cmpN m.high n.high:=by unfold cmpM;rw [c0,c1,c2,c3];simp only [firstI];split<;>simp_all
          rw [e]
          refine ACalls.of_aw (Ω:=[(370,Ent.pure p_rCompare),(335,Ent.pure p_rNumber)]) (T:=assoc []) mixed (TblOk.cons ok_rCompare (TblOk.cons ok_rNumber TblOk.nil)) Tryz.func369 (by kernel_rfl) (by rfl) (rs:=[.tmp 4]) (by rfl) (by kernel_rfl) (by simp only [Tryz.ntmps369,yaz,yba];decide) (Nat.le_refl _) fun hcl hlt=>?_
          change aw _ _ _ (KI Tryz.prog [(370,Ent.pure p_rCompare),(335,Ent.pure p_rNumber)] (aEnd Tryz.prog [.tmp 4] H.nx _ _ (assoc [])) []) _ _
          clear hlt
          simp only [go_sem,matchC,vc,yal,yak,dp,dv,dm,df,val_eq,val_eq',teq_valV,eqg_valV,Bool.bne_true,Bool.not_true,Bool.not_false,p_rCompare,p_rNumber,p2V,i1,i2,i3,i4,i5,i6,Int.toNat_natCast,vOf_back]
          try simp (disch:=first | assumption | omega | (simp;done) | (simp;omega) | (simp only [bt,and_true];first | done | omega | (simp;done))) [↓zlw,beq,ybc,ybd,ybe,endOk,wk,wk2,wk1,wkM,wkL,wkLL,ybf,hcl]
          first | done | repeat (first | exact AHeap.Le.refl _ | refine AHeap.Le.push ?_ _)
        · have df:(m.pfx != n.pfx)=true:=by simp [hf]
          have c3:(cmpI m.pfx n.pfx != 0)=true:=by rw [cmpI_zero];exact df
          have e:cmpM m n=cmpI m.pfx n.pfx:=by unfold cmpM;rw [c0,c1,c2];simp only [firstI_cons,c3];rfl
          rw [e]
          refine ACalls.of_aw (Ω:=[(370,Ent.pure p_rCompare),(335,Ent.pure p_rNumber)]) (T:=assoc []) mixed (TblOk.cons ok_rCompare (TblOk.cons ok_rNumber TblOk.nil)) Tryz.func369 (by kernel_rfl) (by rfl) (rs:=[.tmp 4]) (by rfl) (by kernel_rfl) (by simp only [Tryz.ntmps369,yaz,yba];decide) (Nat.le_refl _) fun hcl hlt=>?_
          change aw _ _ _ (KI Tryz.prog [(370,Ent.pure p_rCompare),(335,Ent.pure p_rNumber)] (aEnd Tryz.prog [.tmp 4] H.nx _ _ (assoc [])) []) _ _
          clear hlt
          simp only [go_sem,matchC,vc,yal,yak,dp,dv,dm,df,val_eq,val_eq',teq_valV,eqg_valV,Bool.bne_true,Bool.not_true,Bool.not_false,p_rCompare,p_rNumber,p2V,i1,i2,i3,i4,i5,i6,Int.toNat_natCast,vOf_back]
          try simp (disch:=first | assumption | omega | (simp;done) | (simp;omega) | (simp only [bt,and_true];first | done | omega | (simp;done))) [↓zlw,beq,ybc,ybd,ybe,endOk,wk,wk2,wk1,wkM,wkL,wkLL,ybf,hcl]
          first | done | repeat (first | exact AHeap.Le.refl _ | refine AHeap.Le.push ?_ _)
      · have dm:decide (m.mask=n.mask)=false:=decide_eq_false hm
        have c2:(cmpN m.mask n.mask != 0)=true:=by rw [cmpN_zero,dm];rfl
        have e:cmpM m n=cmpN m.mask n.mask:=by unfold cmpM;rw [c0,c1];simp only [firstI_cons,c2];rfl
        rw [e]
        refine ACalls.of_aw (Ω:=[(370,Ent.pure p_rCompare),(335,Ent.pure p_rNumber)]) (T:=assoc []) mixed (TblOk.cons ok_rCompare (TblOk.cons ok_rNumber TblOk.nil)) Tryz.func369 (by kernel_rfl) (by rfl) (rs:=[.tmp 4]) (by rfl) (by kernel_rfl) (by simp only [Tryz.ntmps369,yaz,yba];decide) (Nat.le_refl _) fun hcl hlt=>?_
        change aw _ _ _ (KI Tryz.prog [(370,Ent.pure p_rCompare),(335,Ent.pure p_rNumber)] (aEnd Tryz.prog [.tmp 4] H.nx _ _ (assoc [])) []) _ _
        clear hlt
        simp only [go_sem,matchC,vc,yal,yak,dp,dv,dm,val_eq,val_eq',teq_valV,eqg_valV,Bool.bne_true,Bool.not_true,Bool.not_false,p_rCompare,p_rNumber,p2V,i1,i2,i3,i4,i5,i6,Int.toNat_natCast,vOf_back]
        try simp (disch:=first | assumption | omega | (simp;done) | (simp;omega) | (simp only [bt,and_true];first | done | omega | (simp;done))) [↓zlw,beq,ybc,ybd,ybe,endOk,wk,wk2,wk1,wkM,wkL,wkLL,ybf,hcl]
        first | done | repeat (first | exact AHeap.Le.refl _ | refine AHeap.Le.push ?_ _)
    · have dv:decide (m.value=n.value)=false:=decide_eq_false hv
      have c1:(cmpN m.value n.value != 0)=true:=by rw [cmpN_zero,dv];rfl
      have e:cmpM m n=cmpN m.value n.value:=by unfold cmpM;rw [c0];simp only [firstI_cons,c1];rfl
      rw [e]
      refine ACalls.of_aw (Ω:=[(370,Ent.pure p_rCompare),(335,Ent.pure p_rNumber)]) (T:=assoc []) mixed (TblOk.cons ok_rCompare (TblOk.cons ok_rNumber TblOk.nil)) Tryz.func369 (by kernel_rfl) (by rfl) (rs:=[.tmp 4]) (by rfl) (by kernel_rfl) (by simp only [Tryz.ntmps369,yaz,yba];decide) (Nat.le_refl _) fun hcl hlt=>?_
      change aw _ _ _ (KI Tryz.prog [(370,Ent.pure p_rCompare),(335,Ent.pure p_rNumber)] (aEnd Tryz.prog [.tmp 4] H.nx _ _ (assoc [])) []) _ _
      clear hlt
      simp only [go_sem,matchC,vc,yal,yak,dp,dv,val_eq,val_eq',teq_valV,eqg_valV,Bool.bne_true,Bool.not_true,Bool.not_false,p_rCompare,p_rNumber,p2V,i1,i2,i3,i4,i5,i6,Int.toNat_natCast,vOf_back]
      try simp (disch:=first | assumption | omega | (simp;done) | (simp;omega) | (simp only [bt,and_true];first | done | omega | (simp;done))) [↓zlw,beq,ybc,ybd,ybe,endOk,wk,wk2,wk1,wkM,wkL,wkLL,ybf,hcl]
      first | done | repeat (first | exact AHeap.Le.refl _ | refine AHeap.Le.push ?_ _)
  · have dp:(m.present==n.present)=false:=by simp [hp]
    cases hn:n.present
    · have hm:m.present=true:=by
        cases h:m.present with
        | true=>rfl
        | false=>exact absurd (h.trans hn.symm) hp
      have e:cmpM m n=1:=by unfold cmpM pI;rw [hm,hn];rfl
      rw [e]
      refine ACalls.of_aw (Ω:=[(370,Ent.pure p_rCompare),(335,Ent.pure p_rNumber)]) (T:=assoc []) mixed (TblOk.cons ok_rCompare (TblOk.cons ok_rNumber TblOk.nil)) Tryz.func369 (by kernel_rfl) (by rfl) (rs:=[.tmp 4]) (by rfl) (by kernel_rfl) (by simp only [Tryz.ntmps369,yaz,yba];decide) (Nat.le_refl _) fun hcl hlt=>?_
      change aw _ _ _ (KI Tryz.prog [(370,Ent.pure p_rCompare),(335,Ent.pure p_rNumber)] (aEnd Tryz.prog [.tmp 4] H.nx _ _ (assoc [])) []) _ _
      clear hlt
      simp only [go_sem,matchC,vc,yal,yak,hm,hn,show (true != false)=true from rfl,show (false != true)=true from rfl,show (true==false)=false from rfl,show (false==true)=false from rfl,val_eq,val_eq',teq_valV,eqg_valV,Bool.bne_true,Bool.not_true,Bool.not_false,p_rCompare,p_rNumber,p2V,i1,i2,i3,i4,i5,i6,Int.toNat_natCast,vOf_back]
      try simp (disch:=first | assumption | omega | (simp;done) | (simp;omega) | (simp only [bt,and_true];first | done | omega | (simp;done))) [↓zlw,beq,ybc,ybd,ybe,endOk,wk,wk2,wk1,wkM,wkL,wkLL,ybf,hcl]
      first | done | repeat (first | exact AHeap.Le.refl _ | refine AHeap.Le.push ?_ _)
    · have hm:m.present=false:=by
        cases h:m.present with
        | false=>rfl
        | true=>exact absurd (h.trans hn.symm) hp
      have e:cmpM m n = -1:=by unfold cmpM pI;rw [hm,hn];rfl
      rw [e]
      refine ACalls.of_aw (Ω:=[(370,Ent.pure p_rCompare),(335,Ent.pure p_rNumber)]) (T:=assoc []) mixed (TblOk.cons ok_rCompare (TblOk.cons ok_rNumber TblOk.nil)) Tryz.func369 (by kernel_rfl) (by rfl) (rs:=[.tmp 4]) (by rfl) (by kernel_rfl) (by simp only [Tryz.ntmps369,yaz,yba];decide) (Nat.le_refl _) fun hcl hlt=>?_
      change aw _ _ _ (KI Tryz.prog [(370,Ent.pure p_rCompare),(335,Ent.pure p_rNumber)] (aEnd Tryz.prog [.tmp 4] H.nx _ _ (assoc [])) []) _ _
      clear hlt
      simp only [go_sem,matchC,vc,yal,yak,hm,hn,show (true != false)=true from rfl,show (false != true)=true from rfl,show (true==false)=false from rfl,show (false==true)=false from rfl,val_eq,val_eq',teq_valV,eqg_valV,Bool.bne_true,Bool.not_true,Bool.not_false,p_rCompare,p_rNumber,p2V,i1,i2,i3,i4,i5,i6,Int.toNat_natCast,vOf_back]
      try simp (disch:=first | assumption | omega | (simp;done) | (simp;omega) | (simp only [bt,and_true];first | done | omega | (simp;done))) [↓zlw,beq,ybc,ybd,ybe,endOk,wk,wk2,wk1,wkM,wkL,wkLL,ybf,hcl]
      first | done | repeat (first | exact AHeap.Le.refl _ | refine AHeap.Le.push ?_ _)
end Go.AL


open Go Go.AL Go.Proofs
namespace Go.AL
set_option linter.all false
set_option maxRecDepth 10000
theorem ti_bmatches:ti Tryz.prog 197=some ⟨.slice 367,1,24,.slice .nil 1 []⟩:=by kernel_rfl
theorem ti_bvalues:ti Tryz.prog 47=some ⟨.slice 83,1,24,.slice .nil 1 []⟩:=by kernel_rfl
theorem ti_bmatch:ti Tryz.prog 367=some ⟨.struct [(0,4,false),(1,83,false),(3,83,false),(5,3,false),(6,83,false)],8,64,.agg [.bool false,.int .u64 0,.int .u64 0,.int .u64 0,.int .u64 0,.int .i64 0,.int .u64 0,.int .u64 0]⟩:=by kernel_rfl
attribute [go_sem] ti_bmatches ti_bvalues ti_bmatch
def cmpL {α:Type} (f:α→α→Int):List α→List α→Int
  | [],[]=>0
  | [],_::_ => -1
  | _::_,[]=>1
  | x::xs,y::ys=>if (f x y != 0)=true then f x y else cmpL f xs ys
theorem cmpL_end {α:Type} {f:α→α→Int}:∀ {xs ys:List α} {k:Nat},k≤xs.length→k≤ys.length→(k=xs.length∨k=ys.length)→cmpL f (xs.drop k) (ys.drop k)=cmpI xs.length ys.length:=by
  intro xs ys k h1 h2 h
  have e1:(xs.drop k).length=xs.length - k:=List.length_drop ..
  have e2:(ys.drop k).length=ys.length - k:=List.length_drop ..
  generalize xs.drop k=a at *
  generalize ys.drop k=b at *
  unfold cmpI
  cases a with
  | nil =>
    cases b with
    | nil =>
      simp only [yba] at e1 e2
      rw [if_neg (by omega),if_neg (by omega)];rfl
    | cons y ys' =>
      simp only [yba,yaz] at e1 e2
      rw [if_pos (by omega)];rfl
  | cons x xs' =>
    cases b with
    | nil =>
      simp only [yba,yaz] at e1 e2
      rw [if_neg (by omega),if_pos (by omega)];rfl
    | cons y ys' =>
      simp only [yaz] at e1 e2
      omega
def p_rMatchL:List AV→AHeap→(AV→Prop)→Prop
  | [.slice _ 8 l,.slice _ 8 k],_,K=>∃ ms ns:List SMatch,(l=ms.map matchAV∧k=ns.map matchAV∧ms.length≤140737488355328∧ns.length≤140737488355328∧(∀ x∈ms,MOk x)∧∀ x∈ns,MOk x)∧K (.int .i64 (cmpL cmpM ms ns))
  | _,_,_=>False
set_option maxHeartbeats 2000000 in
theorem ok_rMatchL:EntOk Tryz.prog 336 (Ent.pure p_rMatchL):=by
  refine EntOk.pure fun args H K h=>?_
  unfold p_rMatchL at h
  split at h
  rotate_left
  · exact h.elim
  rename_i m1 l m2 k
  obtain ⟨ms,ns,⟨rfl,rfl,hl1,hl2,ho1,ho2⟩,hK⟩:=h
  refine ⟨_,hK,?_⟩
  clear hK
  generalize hR:cmpL cmpM ms ns=R
  refine ACalls.of_aw (Ω:=[(369,Ent.pure p_rMatch),(335,Ent.pure p_rNumber)]) (T:=assoc [(4,[[],[],[],[],[],[],[],[],[3,7]])]) mixed (TblOk.cons ok_rMatch (TblOk.cons ok_rNumber TblOk.nil)) Tryz.func336 (by kernel_rfl) (by rfl) (rs:=[.tmp 4]) (by rfl) (by kernel_rfl) (by simp only [Tryz.ntmps336,yaz,yba];decide) (Nat.le_refl _) fun hcl hlt=>?_
  change aw _ _ _ (KI Tryz.prog [(369,Ent.pure p_rMatch),(335,Ent.pure p_rNumber)] (aEnd Tryz.prog [.tmp 4] H.nx _ _ (assoc [(4,[[],[],[],[],[],[],[],[],[3,7]])])) []) _ _
  have hm1:AV.lt H.nx (.slice m1 8 (ms.map matchAV)):=hlt _ (by simp)
  have hm2:AV.lt H.nx (.slice m2 8 (ns.map matchAV)):=hlt _ (by simp)
  clear hlt
  simp only [go_sem,ybb]
  refine loop_introW (A:=Nat) (fun k=>[(0,.slice m1 8 (ms.map matchAV)),(1,.slice m2 8 (ns.map matchAV)),(5,.int .i64 (k:Int))]) (fun _=>H) (fun k=>k≤ms.length∧k≤ns.length∧cmpL cmpM (ms.drop k) (ns.drop k)=R) (fun k=>ms.length - k) 0 ⟨by omega,by omega,hR⟩ ?_ fun k hk=>?_
  · refine ⟨Nat.le_refl _,AHeap.Le.refl _,hcl,?_,?_⟩
    · simp [ltF,zmn,hm1,hm2]
    · simp [subW,wk2,wk1,wkM,Fr.get]
  clear hR
  obtain ⟨hk1,hk2,hR⟩:=hk
  by_cases hk':k<ms.length
  · have d0:decide ((k:Int)<(ms.length:Int))=true:=decide_eq_true (by omega)
    obtain ⟨x,hx⟩:∃ x,x=ms[k]:=⟨_,rfl⟩
    have hd:ms.drop k=x::ms.drop (k+1):=by rw [hx];exact List.drop_eq_getElem_cons hk'
    have hg:=getD_map (f:=matchAV) (l:=ms) (k:=k) (x:=x) (by rw [List.getElem?_eq_getElem hk',hx])
    have e5:IntKind.i64.wrap ((k:Int)+1)=((k+1:Nat):Int):=by rw [wrap_i64]<;>omega
    have hox:=ho1 x (by rw [hx];exact List.getElem_mem hk')
    by_cases hk3:k<ns.length
    · have d1:decide ((k:Int)<(ns.length:Int))=true:=decide_eq_true (by omega)
      obtain ⟨y,hy⟩:∃ y,y=ns[k]:=⟨_,rfl⟩
      have hd2:ns.drop k=y::ns.drop (k+1):=by rw [hy];exact List.drop_eq_getElem_cons hk3
      have hg2:=getD_map (f:=matchAV) (l:=ns) (k:=k) (x:=y) (by rw [List.getElem?_eq_getElem hk3,hy])
      have hoy:=ho2 y (by rw [hy];exact List.getElem_mem hk3)
      rw [hd,hd2] at hR
      unfold cmpL at hR
      skip
      simp only [go_sem,Int.toNat_natCast,ybb,hg,hg2,d0,d1,matchAV,matchC,vc,yal,yak,p_rMatch]
      (repeat with_reducible refine And.intro (by first | exact True.intro | decide | omega | (simp [zib,zge,zgf,zgg,zgi,zgh,zgm];first | done | omega)) ?_)
      refine ⟨x,y,⟨rfl,rfl,hox,hoy⟩,?_⟩
      try simp only [blkE,blkP,bhq,Nat.reduceMod,Nat.reduceDiv,stepH,stepM,toMs1,toMs,toMs0,strK,pubK,pubF,pubV,yaq,yar,yao,yap,go_sem,ybb]
      refine cond_split (fun hq=>?_) (fun hq=>?_)
      · rw [if_pos hq] at hR
        subst hR
        simp only [go_sem]
        simp (disch:=first | assumption | omega | (simp;done) | (simp;omega) | (simp only [bt,and_true];first | done | omega | (simp;done))) [↓zlw,beq,ybc,ybd,ybe,endOk,wk,wk2,wk1,wkM,wkL,wkLL,ybf,hcl]
        first | done | repeat (first | exact AHeap.Le.refl _ | refine AHeap.Le.push ?_ _)
      · rw [if_neg (by rw [hq];decide)] at hR
        simp only [go_sem,e5]
        refine ⟨k+1,⟨by omega,by omega,hR⟩,by omega,Nat.le_refl _,by repeat (first | exact AHeap.Le.refl _ | refine AHeap.Le.push ?_ _),hcl,?_,?_⟩
        · simp [ltF,zmn,hm1,hm2]
        · simp [subW,wk2,wk1,wkM,Fr.get]
    · have d1:decide ((k:Int)<(ns.length:Int))=false:=decide_eq_false (by omega)
      have he:=cmpL_end (f:=cmpM) hk1 hk2 (.inr (by omega))
      rw [he] at hR
      subst hR
      simp only [go_sem,Int.toNat_natCast,ybb,d0,d1,p_rNumber]
      (repeat with_reducible refine And.intro (by first | exact True.intro | decide | omega | (simp [zib,zge,zgf,zgg,zgi,zgh,zgm];first | done | omega)) ?_)
      simp (disch:=first | assumption | omega | (simp;done) | (simp;omega) | (simp only [bt,and_true];first | done | omega | (simp;done))) [↓zlw,beq,ybc,ybd,ybe,endOk,wk,wk2,wk1,wkM,wkL,wkLL,ybf,hcl]
      first | done | repeat (first | exact AHeap.Le.refl _ | refine AHeap.Le.push ?_ _)
  · have d0:decide ((k:Int)<(ms.length:Int))=false:=decide_eq_false (by omega)
    have he:=cmpL_end (f:=cmpM) hk1 hk2 (.inl (by omega))
    rw [he] at hR
    subst hR
    simp only [go_sem,Int.toNat_natCast,ybb,d0,p_rNumber]
    (repeat with_reducible refine And.intro (by first | exact True.intro | decide | omega | (simp [zib,zge,zgf,zgg,zgi,zgh,zgm];first | done | omega)) ?_)
    simp (disch:=first | assumption | omega | (simp;done) | (simp;omega) | (simp only [bt,and_true];first | done | omega | (simp;done))) [↓zlw,beq,ybc,ybd,ybe,endOk,wk,wk2,wk1,wkM,wkL,wkLL,ybf,hcl]
    first | done | repeat (first | exact AHeap.Le.refl _ | refine AHeap.Le.push ?_ _)
def p_rValueL:List AV→AHeap→(AV→Prop)→Prop
  | [.slice _ 2 l,.slice _ 2 k],_,K=>∃ ms ns:List Nat,(l=ms.map vv∧k=ns.map vv∧ms.length≤140737488355328∧ns.length≤140737488355328∧(∀ x∈ms,x<2^128)∧∀ x∈ns,x<2^128)∧K (.int .i64 (cmpL cmpN ms ns))
  | _,_,_=>False
set_option maxHeartbeats 2000000 in
theorem ok_rValueL:EntOk Tryz.prog 337 (Ent.pure p_rValueL):=by
  refine EntOk.pure fun args H K h=>?_
  unfold p_rValueL at h
  split at h
  rotate_left
  · exact h.elim
  rename_i m1 l m2 k
  obtain ⟨ms,ns,⟨rfl,rfl,hl1,hl2,ho1,ho2⟩,hK⟩:=h
  refine ⟨_,hK,?_⟩
  clear hK
  generalize hR:cmpL cmpN ms ns=R
  refine ACalls.of_aw (Ω:=[(370,Ent.pure p_rCompare),(335,Ent.pure p_rNumber)]) (T:=assoc [(4,[[],[],[],[],[],[],[],[],[3,7]])]) mixed (TblOk.cons ok_rCompare (TblOk.cons ok_rNumber TblOk.nil)) Tryz.func337 (by kernel_rfl) (by rfl) (rs:=[.tmp 4]) (by rfl) (by kernel_rfl) (by simp only [Tryz.ntmps337,yaz,yba];decide) (Nat.le_refl _) fun hcl hlt=>?_
  change aw _ _ _ (KI Tryz.prog [(370,Ent.pure p_rCompare),(335,Ent.pure p_rNumber)] (aEnd Tryz.prog [.tmp 4] H.nx _ _ (assoc [(4,[[],[],[],[],[],[],[],[],[3,7]])])) []) _ _
  have hm1:AV.lt H.nx (.slice m1 2 (ms.map vv)):=hlt _ (by simp)
  have hm2:AV.lt H.nx (.slice m2 2 (ns.map vv)):=hlt _ (by simp)
  clear hlt
  simp only [go_sem,ybb]
  refine loop_introW (A:=Nat) (fun k=>[(0,.slice m1 2 (ms.map vv)),(1,.slice m2 2 (ns.map vv)),(5,.int .i64 (k:Int))]) (fun _=>H) (fun k=>k≤ms.length∧k≤ns.length∧cmpL cmpN (ms.drop k) (ns.drop k)=R) (fun k=>ms.length - k) 0 ⟨by omega,by omega,hR⟩ ?_ fun k hk=>?_
  · refine ⟨Nat.le_refl _,AHeap.Le.refl _,hcl,?_,?_⟩
    · simp [ltF,zmn,hm1,hm2]
    · simp [subW,wk2,wk1,wkM,Fr.get]
  clear hR
  obtain ⟨hk1,hk2,hR⟩:=hk
  by_cases hk':k<ms.length
  · have d0:decide ((k:Int)<(ms.length:Int))=true:=decide_eq_true (by omega)
    obtain ⟨x,hx⟩:∃ x,x=ms[k]:=⟨_,rfl⟩
    have hd:ms.drop k=x::ms.drop (k+1):=by rw [hx];exact List.drop_eq_getElem_cons hk'
    have hg:=getD_map (f:=vv) (l:=ms) (k:=k) (x:=x) (by rw [List.getElem?_eq_getElem hk',hx])
    have e5:IntKind.i64.wrap ((k:Int)+1)=((k+1:Nat):Int):=by rw [wrap_i64]<;>omega
    have hox:=ho1 x (by rw [hx];exact List.getElem_mem hk')
    by_cases hk3:k<ns.length
    · have d1:decide ((k:Int)<(ns.length:Int))=true:=decide_eq_true (by omega)
      obtain ⟨y,hy⟩:∃ y,y=ns[k]:=⟨_,rfl⟩
      have hd2:ns.drop k=y::ns.drop (k+1):=by rw [hy];exact List.drop_eq_getElem_cons hk3
      have hg2:=getD_map (f:=vv) (l:=ns) (k:=k) (x:=y) (by rw [List.getElem?_eq_getElem hk3,hy])
      have hoy:=ho2 y (by rw [hy];exact List.getElem_mem hk3)
      rw [hd,hd2] at hR
      unfold cmpL at hR
      have ix:=isV_of hox
      have iy:=isV_of hoy
      simp only [go_sem,Int.toNat_natCast,ybb,hg,hg2,d0,d1,vv,vc,p_rCompare,p2V,ix,iy,Int.toNat_natCast,vOf_back]
      (repeat with_reducible refine And.intro (by first | exact True.intro | decide | omega | (simp [zib,zge,zgf,zgg,zgi,zgh,zgm];first | done | omega)) ?_)
      try simp only [blkE,blkP,bhq,Nat.reduceMod,Nat.reduceDiv,stepH,stepM,toMs1,toMs,toMs0,strK,pubK,pubF,pubV,yaq,yar,yao,yap,go_sem,ybb]
      refine cond_split (fun hq=>?_) (fun hq=>?_)
      · rw [if_pos hq] at hR
        subst hR
        simp only [go_sem]
        simp (disch:=first | assumption | omega | (simp;done) | (simp;omega) | (simp only [bt,and_true];first | done | omega | (simp;done))) [↓zlw,beq,ybc,ybd,ybe,endOk,wk,wk2,wk1,wkM,wkL,wkLL,ybf,hcl]
        first | done | repeat (first | exact AHeap.Le.refl _ | refine AHeap.Le.push ?_ _)
      · rw [if_neg (by rw [hq];decide)] at hR
        simp only [go_sem,e5]
        refine ⟨k+1,⟨by omega,by omega,hR⟩,by omega,Nat.le_refl _,by repeat (first | exact AHeap.Le.refl _ | refine AHeap.Le.push ?_ _),hcl,?_,?_⟩
        · simp [ltF,zmn,hm1,hm2]
        · simp [subW,wk2,wk1,wkM,Fr.get]
    · have d1:decide ((k:Int)<(ns.length:Int))=false:=decide_eq_false (by omega)
      have he:=cmpL_end (f:=cmpN) hk1 hk2 (.inr (by omega))
      rw [he] at hR
      subst hR
      simp only [go_sem,Int.toNat_natCast,ybb,d0,d1,p_rNumber]
      (repeat with_reducible refine And.intro (by first | exact True.intro | decide | omega | (simp [zib,zge,zgf,zgg,zgi,zgh,zgm];first | done | omega)) ?_)
      simp (disch:=first | assumption | omega | (simp;done) | (simp;omega) | (simp only [bt,and_true];first | done | omega | (simp;done))) [↓zlw,beq,ybc,ybd,ybe,endOk,wk,wk2,wk1,wkM,wkL,wkLL,ybf,hcl]
      first | done | repeat (first | exact AHeap.Le.refl _ | refine AHeap.Le.push ?_ _)
  · have d0:decide ((k:Int)<(ms.length:Int))=false:=decide_eq_false (by omega)
    have he:=cmpL_end (f:=cmpN) hk1 hk2 (.inl (by omega))
    rw [he] at hR
    subst hR
    simp only [go_sem,Int.toNat_natCast,ybb,d0,p_rNumber]
    (repeat with_reducible refine And.intro (by first | exact True.intro | decide | omega | (simp [zib,zge,zgf,zgg,zgi,zgh,zgm];first | done | omega)) ?_)
    simp (disch:=first | assumption | omega | (simp;done) | (simp;omega) | (simp only [bt,and_true];first | done | omega | (simp;done))) [↓zlw,beq,ybc,ybd,ybe,endOk,wk,wk2,wk1,wkM,wkL,wkLL,ybf,hcl]
    first | done | repeat (first | exact AHeap.Le.refl _ | refine AHeap.Le.push ?_ _)
end Go.AL


open Go Go.AL Go.Proofs
namespace Go.AL
set_option linter.all false
set_option maxRecDepth 10000

structure COk (e:SEntry):Prop where
  ok:EOk e
  ar:∀ x∈e.args,x<2^128
def cmpE (e f:SEntry):Int:=firstI [cmpI e.table f.table,cmpI f.prio e.prio,cmpL cmpM e.ms f.ms,cmpI e.act f.act,cmpL cmpN e.args f.args]
def p_rCompareE:List AV→AHeap→(AV→Prop)→Prop
  | [.agg l,.agg k],_,K=>∃ e f:SEntry,(l=entryC e∧k=entryC f∧COk e∧COk f)∧K (.int .i64 (cmpE e f))
  | _,_,_=>False
set_option maxHeartbeats 2000000 in
theorem ok_rCompareE:EntOk Tryz.prog 279 (Ent.pure p_rCompareE):=by
  refine EntOk.pure fun args H K h=>?_
  unfold p_rCompareE at h
  split at h
  rotate_left
  · exact h.elim
  rename_i l k
  obtain ⟨e,f,⟨rfl,rfl,he,hf⟩,hK⟩:=h
  refine ⟨_,hK,?_⟩
  clear hK
  obtain ⟨L,hL⟩:∃ L,L=[cmpI e.table f.table,cmpI f.prio e.prio,cmpL cmpM e.ms f.ms,cmpI e.act f.act]:=⟨_,rfl⟩
  have hLl:L.length=4:=by rw [hL];rfl
  have hLi:inL L=[.int .i64 (cmpI e.table f.table),.int .i64 (cmpI f.prio e.prio),.int .i64 (cmpL cmpM e.ms f.ms),.int .i64 (cmpI e.act f.act)]:=by rw [hL];rfl
  have hR0:cmpE e f=firstI (L++[cmpL cmpN e.args f.args]):=by rw [hL];rfl
  generalize cmpE e f=R at *
  generalize hZ:cmpL cmpN e.args f.args=Z at *
  refine ACalls.of_aw (Ω:=[(335,Ent.pure p_rNumber),(336,Ent.pure p_rMatchL),(337,Ent.pure p_rValueL)]) (T:=assoc [(1,[[],[],[],[],[1,3],[],[],[],[],[1,3,4,6,8],[],[],[],[],[1,3,4,6,8,9,11,13],[],[],[],[],[1,3,4,6,8,9,11,13,14,16,18],[1,3,4,6,8,9,11,13,14,16,18,19]])]) mixed (TblOk.cons ok_rNumber (TblOk.cons ok_rMatchL (TblOk.cons ok_rValueL TblOk.nil))) Tryz.func279 (by kernel_rfl) (by rfl) (rs:=[.tmp 4]) (by rfl) (by kernel_rfl) (by simp only [Tryz.ntmps279,yaz,yba];decide) (Nat.le_refl _) fun hcl hlt=>?_
  change aw _ _ _ (KI Tryz.prog [(335,Ent.pure p_rNumber),(336,Ent.pure p_rMatchL),(337,Ent.pure p_rValueL)] (aEnd Tryz.prog [.tmp 4] H.nx _ _ (assoc [(1,[[],[],[],[],[1,3],[],[],[],[],[1,3,4,6,8],[],[],[],[],[1,3,4,6,8,9,11,13],[],[],[],[],[1,3,4,6,8,9,11,13,14,16,18],[1,3,4,6,8,9,11,13,14,16,18,19]])])) []) _ _
  clear hlt
  simp only [go_sem,entryC,p_rNumber,p_rMatchL]
  (repeat with_reducible refine And.intro (by first | exact True.intro | decide | omega | (simp [zib,zge,zgf,zgg,zgi,zgh,zgm];first | done | omega)) ?_)
  refine ⟨e.ms,f.ms,⟨rfl,rfl,he.ok.ml,hf.ok.ml,he.ok.mo,hf.ok.mo⟩,?_⟩
  try simp only [blkE,blkP,bhq,Nat.reduceMod,Nat.reduceDiv,stepH,stepM,toMs1,toMs,toMs0,strK,pubK,pubF,pubV,yaq,yar,yao,yap,go_sem]
  obtain ⟨HB,hHB⟩:∃ HB,((H.push (.cells (entryC e))).push (.cells (entryC f))).push (.buf 1 4)=HB:=⟨_,rfl⟩
  have hclB:HB.Closed:=by
    rw [← hHB]
    exact closed_buf (closed_cells (closed_cells hcl (ltL_iff.2 fun j hj=>AV.lt_cells (lt_entry e) j hj)) (ltL_iff.2 fun j hj=>AV.lt_cells (lt_entry f) j hj))
  have hnB:HB.nx=H.nx+1+1+1:=by rw [← hHB];rfl
  refine loop_introW (A:=Nat) (fun k=>[(2,.ptr H.nx 0),(3,.ptr (H.nx+1) 0),(27,.slice .any 1 (inL L)),(28,.int .i64 ((4:Nat):Int)),(29,.int .i64 (k:Int))]) (fun _=>HB) (fun k=>k≤4∧firstI (L.drop k++[Z])=R) (fun k=>4 - k) 0 ⟨by omega,hR0.symm⟩ ?_ fun k hk=>?_
  · refine ⟨by simp only [hnB,zjy,zkd];omega,by rw [← hHB];exact AHeap.Le.refl _,hclB,?_,?_⟩
    · simp [ltF,hnB,zmv,zmn,lt_inL]
      omega
    · rw [hLi]
      simp [subW,wk2,wk1,wkM,Fr.get]
  clear hR0
  obtain ⟨hk,hR⟩:=hk
  simp only [go_sem]
  refine cond_split (fun hc=>?_) (fun hc=>?_)
  · have hk':k<L.length:=by simp at hc;omega
    obtain ⟨x,hx⟩:∃ x,x=L[k]:=⟨_,rfl⟩
    have hd:L.drop k=x::L.drop (k+1):=by rw [hx];exact List.drop_eq_getElem_cons hk'
    have hg:=getD_map (f:=AV.int .i64) (l:=L) (k:=k) (x:=x) (by rw [List.getElem?_eq_getElem hk',hx])
    have e5:IntKind.i64.wrap ((k:Int)+1)=((k+1:Nat):Int):=by rw [wrap_i64]<;>omega
    rw [hd,yal] at hR
    unfold firstI at hR
    rw [← hHB]
    simp only [go_sem,entryC,Int.toNat_natCast,inL,hg,ybb,hLl]
    (repeat with_reducible refine And.intro (by first | exact True.intro | decide | omega | (simp [zib,zge,zgf,zgg,zgi,zgh,zgm];first | done | omega)) ?_)
    refine cond_split (fun hq=>?_) (fun hq=>?_)
    · rw [if_pos hq] at hR
      subst hR
      simp only [go_sem]
      simp (disch:=first | assumption | omega | (simp;done) | (simp;omega) | (simp only [bt,and_true];first | done | omega | (simp;done))) [↓zlw,beq,ybc,ybd,ybe,endOk,wk,wk2,wk1,wkM,wkL,wkLL,ybf,hcl]
      first | done | repeat (first | exact AHeap.Le.refl _ | refine AHeap.Le.push ?_ _)
    · rw [if_neg (by rw [hq];decide)] at hR
      simp only [go_sem,e5]
      refine ⟨k+1,⟨by omega,hR⟩,by omega,by simp only [zkm];omega,AHeap.Le.refl _,by rw [← hHB] at hclB;exact hclB,?_,?_⟩
      · simp [ltF,zkm,zmv,zmn]
        exact ⟨by omega,lt_inL⟩
      · simp [subW,wk2,wk1,wkM,Fr.get]
  · have hk':k=L.length:=by simp at hc;omega
    subst hk'
    rw [List.drop_length,yak] at hR
    have hz:R=Z:=by rw [← hR];simp only [firstI];split<;>simp_all
    subst hz
    rw [← hHB]
    simp only [go_sem,entryC,p_rValueL]
    refine ⟨e.args,f.args,⟨rfl,rfl,he.ok.al,hf.ok.al,he.ar,hf.ar⟩,?_⟩
    rw [hZ]
    try simp only [go_sem]
    simp (disch:=first | assumption | omega | (simp;done) | (simp;omega) | (simp only [bt,and_true];first | done | omega | (simp;done))) [↓zlw,beq,ybc,ybd,ybe,endOk,wk,wk2,wk1,wkM,wkL,wkLL,ybf,hcl]
    first | done | repeat (first | exact AHeap.Le.refl _ | refine AHeap.Le.push ?_ _)
end Go.AL

